/-
  The reference of layer 5: RightRcpt.
-/
import Derived.Test.YtfffdbjfhdkheaaGreatDoorQPfD
import Derived.Test.YtfffdbjfhdkheaaGreatDoorQ2
set_option linter.unusedVariables false
set_option linter.unusedSimpArgs false
namespace Go.Proofs.YtfffdbjfhdkheaaGreatDoor
open Go.RowKit Go.Shelf
set_option maxRecDepth 100000
/-- A slice that was just made reads as its texts. -/
theorem fresh_strs (xs : List ByteArray) (cs : Array Value) (hcs : cs = (xs.map Value.string).toArray) (W : World) : Strs (W.alloc (.cells cs 9)) (some ⟨W.heap.size, 0, none⟩) xs := fun hn => by
  subst hcs
  have h0 : (W.alloc (.cells (xs.map Value.string).toArray 9)).heap[W.heap.size]? = some (.cells (xs.map Value.string).toArray 9 (0, 0)) := heap_alloc_new W _
  refine ⟨_, 0, rfl, by simp, fun j hj => ?_⟩
  unfold World.cell?
  simp only [h0]
  simp [hj]
/-- among, at a slice that was just made. -/
theorem amongR_fresh (s : ByteArray) (xs : List ByteArray) (cs : Array Value) (hcs : cs = (xs.map Value.string).toArray) (n : Nat) (hz : xs.length = n) (hn : n ≤ 1000) (r : Bool) (hr : Lib.containsS xs s = r) (W : World) (bb : Nat) (hb : W.heap.size = bb) :
    Calls Tryz.prog 68 #[.string s, .slice (some ⟨bb, 0, none⟩) n n] (W.alloc (.cells cs 9)) fun e w' => e = .returned (.bool r) ∧ Below W.heap.size W w' := by
  subst hz hr hb
  exact (refAmong_any s _ xs.length xs.length xs rfl (W.alloc (.cells cs 9)) (fresh_strs xs cs hcs W) (by omega)).mono fun _ _ ⟨h1, h2⟩ => ⟨h1, h2 ▸ (Below.refl _ _).alloc (Nat.le_refl _) _⟩
set_option maxHeartbeats 4000000 in
theorem pr_A (nt kd oc : ByteArray) (hcon : Lib.containsS [⟨#[]⟩, ⟨#[78]⟩, ⟨#[83]⟩, ⟨#[70]⟩, ⟨#[68]⟩, ⟨#[83, 70]⟩, ⟨#[83, 68]⟩, ⟨#[70, 68]⟩, ⟨#[83, 70, 68]⟩] nt = false) (w : World) (hk : kd.size ≤ 100000) : Calls Tryz.prog 31 #[.agg #[.string nt, .string kd, .string oc]] w fun e w' => e = .returned (.int .i64 2) ∧ Below w.heap.size w w' := by
  have M : Aside (Mine w [(w.heap.size, #[.string nt, .string kd, .string oc], 41)] (w.alloc (.cells #[.string nt, .string kd, .string oc] 41))) := ⟨(Mine.start w).alloc #[.string nt, .string kd, .string oc] 41⟩
  have HC := Lib.hid (show (#[.string ⟨#[]⟩, .string ⟨#[78]⟩, .string ⟨#[83]⟩, .string ⟨#[70]⟩, .string ⟨#[68]⟩, .string ⟨#[83, 70]⟩, .string ⟨#[83, 68]⟩, .string ⟨#[70, 68]⟩, .string ⟨#[83, 70, 68]⟩] : Array Value) = (([⟨#[]⟩, ⟨#[78]⟩, ⟨#[83]⟩, ⟨#[70]⟩, ⟨#[68]⟩, ⟨#[83, 70]⟩, ⟨#[83, 68]⟩, ⟨#[70, 68]⟩, ⟨#[83, 70, 68]⟩] : List ByteArray).map Value.string).toArray from rfl)
  have hty := fun W => refTyped_any kd hk W
  have hup := fun W => refUpper_any kd hk W
  go_enter Tryz.func31, Tryz.ntmps31
  go_wp2_with (first | (go_at_call 68; (with_reducible refine (amongR_fresh nt [⟨#[]⟩, ⟨#[78]⟩, ⟨#[83]⟩, ⟨#[70]⟩, ⟨#[68]⟩, ⟨#[83, 70]⟩, ⟨#[83, 68]⟩, ⟨#[70, 68]⟩, ⟨#[83, 70, 68]⟩] #[.string ⟨#[]⟩, .string ⟨#[78]⟩, .string ⟨#[83]⟩, .string ⟨#[70]⟩, .string ⟨#[68]⟩, .string ⟨#[83, 70]⟩, .string ⟨#[83, 68]⟩, .string ⟨#[70, 68]⟩, .string ⟨#[83, 70, 68]⟩] HC.out 9 (show List.length _ = _ from rfl) (by decide) _ hcon (w.alloc (.cells #[.string nt, .string kd, .string oc] 41)) (w.heap.size + 1) (by simp)).mono ?_); rintro e W1 ⟨rfl, hb⟩; replace M := Aside.mk (M.out.next hb); clear hb; have z0 := Mine.at M.out 0 _ rfl; have z1 := Mine.at M.out 1 _ rfl; have z2 := Mine.at M.out 2 _ rfl; have zl := Mine.lt M.out))
  go_ret
  exact ⟨rfl, M.out.low⟩
set_option maxHeartbeats 4000000 in
theorem pr_B1 (nt kd oc : ByteArray) (hcon : Lib.containsS [⟨#[]⟩, ⟨#[78]⟩, ⟨#[83]⟩, ⟨#[70]⟩, ⟨#[68]⟩, ⟨#[83, 70]⟩, ⟨#[83, 68]⟩, ⟨#[70, 68]⟩, ⟨#[83, 70, 68]⟩] nt = true) (e1 : (kd.toList == []) = true) (e1' : (kd.toList != []) = false) (e2 : (oc.toList == []) = false)  (w : World) (hk : kd.size ≤ 100000) : Calls Tryz.prog 31 #[.agg #[.string nt, .string kd, .string oc]] w fun e w' => e = .returned (.int .i64 2) ∧ Below w.heap.size w w' := by
  have M : Aside (Mine w [(w.heap.size, #[.string nt, .string kd, .string oc], 41)] (w.alloc (.cells #[.string nt, .string kd, .string oc] 41))) := ⟨(Mine.start w).alloc #[.string nt, .string kd, .string oc] 41⟩
  have HC := Lib.hid (show (#[.string ⟨#[]⟩, .string ⟨#[78]⟩, .string ⟨#[83]⟩, .string ⟨#[70]⟩, .string ⟨#[68]⟩, .string ⟨#[83, 70]⟩, .string ⟨#[83, 68]⟩, .string ⟨#[70, 68]⟩, .string ⟨#[83, 70, 68]⟩] : Array Value) = (([⟨#[]⟩, ⟨#[78]⟩, ⟨#[83]⟩, ⟨#[70]⟩, ⟨#[68]⟩, ⟨#[83, 70]⟩, ⟨#[83, 68]⟩, ⟨#[70, 68]⟩, ⟨#[83, 70, 68]⟩] : List ByteArray).map Value.string).toArray from rfl)
  have hty := fun W => refTyped_any kd hk W
  have hup := fun W => refUpper_any kd hk W
  go_enter Tryz.func31, Tryz.ntmps31
  go_wp2_with (first | (go_at_call 68; (with_reducible refine (amongR_fresh nt [⟨#[]⟩, ⟨#[78]⟩, ⟨#[83]⟩, ⟨#[70]⟩, ⟨#[68]⟩, ⟨#[83, 70]⟩, ⟨#[83, 68]⟩, ⟨#[70, 68]⟩, ⟨#[83, 70, 68]⟩] #[.string ⟨#[]⟩, .string ⟨#[78]⟩, .string ⟨#[83]⟩, .string ⟨#[70]⟩, .string ⟨#[68]⟩, .string ⟨#[83, 70]⟩, .string ⟨#[83, 68]⟩, .string ⟨#[70, 68]⟩, .string ⟨#[83, 70, 68]⟩] HC.out 9 (show List.length _ = _ from rfl) (by decide) _ hcon (w.alloc (.cells #[.string nt, .string kd, .string oc] 41)) (w.heap.size + 1) (by simp)).mono ?_); rintro e W1 ⟨rfl, hb⟩; replace M := Aside.mk (M.out.next hb); clear hb; have z0 := Mine.at M.out 0 _ rfl; have z1 := Mine.at M.out 1 _ rfl; have z2 := Mine.at M.out 2 _ rfl; have zl := Mine.lt M.out))
  clear hcon
  refine region_class (C := (fun w' => Mine w [(w.heap.size, #[.string nt, .string kd, .string oc], 41)] w')) (by kernel_rfl) (by kernel_rfl) (M.out.drewN 1) ?_
  refine q_run ?_ ?_ ?_ ?_
  · kernel_rfl
  rotate_left
  · intro w_ hw_
    have c0 := Mine.at hw_ 0 _ rfl
    have c1 := Mine.at hw_ 1 _ rfl
    have c2 := Mine.at hw_ 2 _ rfl
    have cl := Mine.lt hw_
    first | (go_simp; done) | (go_simp; with_reducible rfl) | (go_simp; rw [if_neg (by first | omega | (simp; omega))])
  try simp only [Act.put, List.setIfInBounds_toArray, List.set_cons_zero, List.set_cons_succ]
  try simp only [e1, e1', e2]
  refine q_run ?_ ?_ ?_ ?_
  · kernel_rfl
  rotate_left
  · intro w_ hw_
    have c0 := Mine.at hw_ 0 _ rfl
    have c1 := Mine.at hw_ 1 _ rfl
    have c2 := Mine.at hw_ 2 _ rfl
    have cl := Mine.lt hw_
    first | (go_simp; done) | (go_simp; with_reducible rfl) | (go_simp; rw [if_neg (by first | omega | (simp; omega))])
  try simp only [Act.put, List.setIfInBounds_toArray, List.set_cons_zero, List.set_cons_succ]
  try simp only [e1, e1', e2]
  refine q_run ?_ ?_ ?_ ?_
  · kernel_rfl
  rotate_left
  · intro w_ hw_
    have c0 := Mine.at hw_ 0 _ rfl
    have c1 := Mine.at hw_ 1 _ rfl
    have c2 := Mine.at hw_ 2 _ rfl
    have cl := Mine.lt hw_
    first | (go_simp; done) | (go_simp; with_reducible rfl) | (go_simp; rw [if_neg (by first | omega | (simp; omega))])
  try simp only [Act.put, List.setIfInBounds_toArray, List.set_cons_zero, List.set_cons_succ]
  try simp only [e1, e1', e2]
  refine q_run ?_ ?_ ?_ ?_
  · kernel_rfl
  rotate_left
  · intro w_ hw_
    have c0 := Mine.at hw_ 0 _ rfl
    have c1 := Mine.at hw_ 1 _ rfl
    have c2 := Mine.at hw_ 2 _ rfl
    have cl := Mine.lt hw_
    first | (go_simp; done) | (go_simp; with_reducible rfl) | (go_simp; rw [if_neg (by first | omega | (simp; omega))])
  try simp only [Act.put, List.setIfInBounds_toArray, List.set_cons_zero, List.set_cons_succ]
  try simp only [e1, e1', e2]
  first
   | (refine q_skip ?_ ?_
      · rfl)
   | (refine q_run ?_ ?_ ?_ ?_
      · kernel_rfl
      rotate_left
      · intro w_ hw_
        have c0 := Mine.at hw_ 0 _ rfl
        have c1 := Mine.at hw_ 1 _ rfl
        have c2 := Mine.at hw_ 2 _ rfl
        have cl := Mine.lt hw_
        first | (go_simp; done) | (go_simp; with_reducible rfl) | (go_simp; rw [if_neg (by first | omega | (simp; omega))]))
  try simp only [Act.put, List.setIfInBounds_toArray, List.set_cons_zero, List.set_cons_succ]
  try simp only [e1, e1', e2]
  first
   | (refine q_skip ?_ ?_
      · rfl)
   | (refine q_run ?_ ?_ ?_ ?_
      · kernel_rfl
      rotate_left
      · intro w_ hw_
        have c0 := Mine.at hw_ 0 _ rfl
        have c1 := Mine.at hw_ 1 _ rfl
        have c2 := Mine.at hw_ 2 _ rfl
        have cl := Mine.lt hw_
        first | (go_simp; done) | (go_simp; with_reducible rfl) | (go_simp; rw [if_neg (by first | omega | (simp; omega))]))
  try simp only [Act.put, List.setIfInBounds_toArray, List.set_cons_zero, List.set_cons_succ]
  try simp only [e1, e1', e2]
  first
   | (refine q_skip ?_ ?_
      · rfl)
   | (refine q_run ?_ ?_ ?_ ?_
      · kernel_rfl
      rotate_left
      · intro w_ hw_
        have c0 := Mine.at hw_ 0 _ rfl
        have c1 := Mine.at hw_ 1 _ rfl
        have c2 := Mine.at hw_ 2 _ rfl
        have cl := Mine.lt hw_
        first | (go_simp; done) | (go_simp; with_reducible rfl) | (go_simp; rw [if_neg (by first | omega | (simp; omega))]))
  try simp only [Act.put, List.setIfInBounds_toArray, List.set_cons_zero, List.set_cons_succ]
  try simp only [e1, e1', e2]
  refine q_run ?_ ?_ ?_ ?_
  · kernel_rfl
  rotate_left
  · intro w_ hw_
    have c0 := Mine.at hw_ 0 _ rfl
    have c1 := Mine.at hw_ 1 _ rfl
    have c2 := Mine.at hw_ 2 _ rfl
    have cl := Mine.lt hw_
    first | (go_simp; done) | (go_simp; with_reducible rfl) | (go_simp; rw [if_neg (by first | omega | (simp; omega))])
  try simp only [Act.put, List.setIfInBounds_toArray, List.set_cons_zero, List.set_cons_succ]
  try simp only [e1, e1', e2]
  refine q_run ?_ ?_ ?_ ?_
  · kernel_rfl
  rotate_left
  · intro w_ hw_
    have c0 := Mine.at hw_ 0 _ rfl
    have c1 := Mine.at hw_ 1 _ rfl
    have c2 := Mine.at hw_ 2 _ rfl
    have cl := Mine.lt hw_
    first | (go_simp; done) | (go_simp; with_reducible rfl) | (go_simp; rw [if_neg (by first | omega | (simp; omega))])
  try simp only [Act.put, List.setIfInBounds_toArray, List.set_cons_zero, List.set_cons_succ]
  try simp only [e1, e1', e2]
  first
   | (refine q_skip ?_ ?_
      · rfl)
   | (refine q_run ?_ ?_ ?_ ?_
      · kernel_rfl
      rotate_left
      · intro w_ hw_
        have c0 := Mine.at hw_ 0 _ rfl
        have c1 := Mine.at hw_ 1 _ rfl
        have c2 := Mine.at hw_ 2 _ rfl
        have cl := Mine.lt hw_
        first | (go_simp; done) | (go_simp; with_reducible rfl) | (go_simp; rw [if_neg (by first | omega | (simp; omega))]))
  try simp only [Act.put, List.setIfInBounds_toArray, List.set_cons_zero, List.set_cons_succ]
  try simp only [e1, e1', e2]
  first
   | (refine q_skip ?_ ?_
      · rfl)
   | (refine q_run ?_ ?_ ?_ ?_
      · kernel_rfl
      rotate_left
      · intro w_ hw_
        have c0 := Mine.at hw_ 0 _ rfl
        have c1 := Mine.at hw_ 1 _ rfl
        have c2 := Mine.at hw_ 2 _ rfl
        have cl := Mine.lt hw_
        first | (go_simp; done) | (go_simp; with_reducible rfl) | (go_simp; rw [if_neg (by first | omega | (simp; omega))]))
  try simp only [Act.put, List.setIfInBounds_toArray, List.set_cons_zero, List.set_cons_succ]
  try simp only [e1, e1', e2]
  first
   | (refine q_skip ?_ ?_
      · rfl)
   | (refine q_run ?_ ?_ ?_ ?_
      · kernel_rfl
      rotate_left
      · intro w_ hw_
        have c0 := Mine.at hw_ 0 _ rfl
        have c1 := Mine.at hw_ 1 _ rfl
        have c2 := Mine.at hw_ 2 _ rfl
        have cl := Mine.lt hw_
        first | (go_simp; done) | (go_simp; with_reducible rfl) | (go_simp; rw [if_neg (by first | omega | (simp; omega))]))
  try simp only [Act.put, List.setIfInBounds_toArray, List.set_cons_zero, List.set_cons_succ]
  try simp only [e1, e1', e2]
  first
   | (refine q_skip ?_ ?_
      · rfl)
   | (refine q_run ?_ ?_ ?_ ?_
      · kernel_rfl
      rotate_left
      · intro w_ hw_
        have c0 := Mine.at hw_ 0 _ rfl
        have c1 := Mine.at hw_ 1 _ rfl
        have c2 := Mine.at hw_ 2 _ rfl
        have cl := Mine.lt hw_
        first | (go_simp; done) | (go_simp; with_reducible rfl) | (go_simp; rw [if_neg (by first | omega | (simp; omega))]))
  try simp only [Act.put, List.setIfInBounds_toArray, List.set_cons_zero, List.set_cons_succ]
  try simp only [e1, e1', e2]
  first
   | (refine q_skip ?_ ?_
      · rfl)
   | (refine q_run ?_ ?_ ?_ ?_
      · kernel_rfl
      rotate_left
      · intro w_ hw_
        have c0 := Mine.at hw_ 0 _ rfl
        have c1 := Mine.at hw_ 1 _ rfl
        have c2 := Mine.at hw_ 2 _ rfl
        have cl := Mine.lt hw_
        first | (go_simp; done) | (go_simp; with_reducible rfl) | (go_simp; rw [if_neg (by first | omega | (simp; omega))]))
  try simp only [Act.put, List.setIfInBounds_toArray, List.set_cons_zero, List.set_cons_succ]
  try simp only [e1, e1', e2]
  first
   | (refine q_skip ?_ ?_
      · rfl)
   | (refine q_run ?_ ?_ ?_ ?_
      · kernel_rfl
      rotate_left
      · intro w_ hw_
        have c0 := Mine.at hw_ 0 _ rfl
        have c1 := Mine.at hw_ 1 _ rfl
        have c2 := Mine.at hw_ 2 _ rfl
        have cl := Mine.lt hw_
        first | (go_simp; done) | (go_simp; with_reducible rfl) | (go_simp; rw [if_neg (by first | omega | (simp; omega))]))
  try simp only [Act.put, List.setIfInBounds_toArray, List.set_cons_zero, List.set_cons_succ]
  try simp only [e1, e1', e2]
  first
   | (refine q_skip ?_ ?_
      · rfl)
   | (refine q_run ?_ ?_ ?_ ?_
      · kernel_rfl
      rotate_left
      · intro w_ hw_
        have c0 := Mine.at hw_ 0 _ rfl
        have c1 := Mine.at hw_ 1 _ rfl
        have c2 := Mine.at hw_ 2 _ rfl
        have cl := Mine.lt hw_
        first | (go_simp; done) | (go_simp; with_reducible rfl) | (go_simp; rw [if_neg (by first | omega | (simp; omega))]))
  try simp only [Act.put, List.setIfInBounds_toArray, List.set_cons_zero, List.set_cons_succ]
  try simp only [e1, e1', e2]
  first
   | (refine q_skip ?_ ?_
      · rfl)
   | (refine q_run ?_ ?_ ?_ ?_
      · kernel_rfl
      rotate_left
      · intro w_ hw_
        have c0 := Mine.at hw_ 0 _ rfl
        have c1 := Mine.at hw_ 1 _ rfl
        have c2 := Mine.at hw_ 2 _ rfl
        have cl := Mine.lt hw_
        first | (go_simp; done) | (go_simp; with_reducible rfl) | (go_simp; rw [if_neg (by first | omega | (simp; omega))]))
  try simp only [Act.put, List.setIfInBounds_toArray, List.set_cons_zero, List.set_cons_succ]
  try simp only [e1, e1', e2]
  refine q_run ?_ ?_ ?_ ?_
  · kernel_rfl
  rotate_left
  · intro w_ hw_
    have c0 := Mine.at hw_ 0 _ rfl
    have c1 := Mine.at hw_ 1 _ rfl
    have c2 := Mine.at hw_ 2 _ rfl
    have cl := Mine.lt hw_
    first | (go_simp; done) | (go_simp; with_reducible rfl) | (go_simp; rw [if_neg (by first | omega | (simp; omega))])
  try simp only [Act.put, List.setIfInBounds_toArray, List.set_cons_zero, List.set_cons_succ]
  try simp only [e1, e1', e2]
  refine q_run ?_ ?_ ?_ ?_
  · kernel_rfl
  rotate_left
  · intro w_ hw_
    have c0 := Mine.at hw_ 0 _ rfl
    have c1 := Mine.at hw_ 1 _ rfl
    have c2 := Mine.at hw_ 2 _ rfl
    have cl := Mine.lt hw_
    first | (go_simp; done) | (go_simp; with_reducible rfl) | (go_simp; rw [if_neg (by first | omega | (simp; omega))])
  try simp only [Act.put, List.setIfInBounds_toArray, List.set_cons_zero, List.set_cons_succ]
  try simp only [e1, e1', e2]
  first
   | (refine q_skip ?_ ?_
      · rfl)
   | (refine q_run ?_ ?_ ?_ ?_
      · kernel_rfl
      rotate_left
      · intro w_ hw_
        have c0 := Mine.at hw_ 0 _ rfl
        have c1 := Mine.at hw_ 1 _ rfl
        have c2 := Mine.at hw_ 2 _ rfl
        have cl := Mine.lt hw_
        first | (go_simp; done) | (go_simp; with_reducible rfl) | (go_simp; rw [if_neg (by first | omega | (simp; omega))]))
  try simp only [Act.put, List.setIfInBounds_toArray, List.set_cons_zero, List.set_cons_succ]
  try simp only [e1, e1', e2]
  first
   | (refine q_skip ?_ ?_
      · rfl)
   | (refine q_run ?_ ?_ ?_ ?_
      · kernel_rfl
      rotate_left
      · intro w_ hw_
        have c0 := Mine.at hw_ 0 _ rfl
        have c1 := Mine.at hw_ 1 _ rfl
        have c2 := Mine.at hw_ 2 _ rfl
        have cl := Mine.lt hw_
        first | (go_simp; done) | (go_simp; with_reducible rfl) | (go_simp; rw [if_neg (by first | omega | (simp; omega))]))
  try simp only [Act.put, List.setIfInBounds_toArray, List.set_cons_zero, List.set_cons_succ]
  try simp only [e1, e1', e2]
  first
   | (refine q_skip ?_ ?_
      · rfl)
   | (refine q_run ?_ ?_ ?_ ?_
      · kernel_rfl
      rotate_left
      · intro w_ hw_
        have c0 := Mine.at hw_ 0 _ rfl
        have c1 := Mine.at hw_ 1 _ rfl
        have c2 := Mine.at hw_ 2 _ rfl
        have cl := Mine.lt hw_
        first | (go_simp; done) | (go_simp; with_reducible rfl) | (go_simp; rw [if_neg (by first | omega | (simp; omega))]))
  try simp only [Act.put, List.setIfInBounds_toArray, List.set_cons_zero, List.set_cons_succ]
  try simp only [e1, e1', e2]
  first
   | (refine q_skip ?_ ?_
      · rfl)
   | (refine q_run ?_ ?_ ?_ ?_
      · kernel_rfl
      rotate_left
      · intro w_ hw_
        have c0 := Mine.at hw_ 0 _ rfl
        have c1 := Mine.at hw_ 1 _ rfl
        have c2 := Mine.at hw_ 2 _ rfl
        have cl := Mine.lt hw_
        first | (go_simp; done) | (go_simp; with_reducible rfl) | (go_simp; rw [if_neg (by first | omega | (simp; omega))]))
  try simp only [Act.put, List.setIfInBounds_toArray, List.set_cons_zero, List.set_cons_succ]
  try simp only [e1, e1', e2]
  first
   | (refine q_skip ?_ ?_
      · rfl)
   | (refine q_run ?_ ?_ ?_ ?_
      · kernel_rfl
      rotate_left
      · intro w_ hw_
        have c0 := Mine.at hw_ 0 _ rfl
        have c1 := Mine.at hw_ 1 _ rfl
        have c2 := Mine.at hw_ 2 _ rfl
        have cl := Mine.lt hw_
        first | (go_simp; done) | (go_simp; with_reducible rfl) | (go_simp; rw [if_neg (by first | omega | (simp; omega))]))
  try simp only [Act.put, List.setIfInBounds_toArray, List.set_cons_zero, List.set_cons_succ]
  try simp only [e1, e1', e2]
  first
   | (refine q_skip ?_ ?_
      · rfl)
   | (refine q_run ?_ ?_ ?_ ?_
      · kernel_rfl
      rotate_left
      · intro w_ hw_
        have c0 := Mine.at hw_ 0 _ rfl
        have c1 := Mine.at hw_ 1 _ rfl
        have c2 := Mine.at hw_ 2 _ rfl
        have cl := Mine.lt hw_
        first | (go_simp; done) | (go_simp; with_reducible rfl) | (go_simp; rw [if_neg (by first | omega | (simp; omega))]))
  try simp only [Act.put, List.setIfInBounds_toArray, List.set_cons_zero, List.set_cons_succ]
  try simp only [e1, e1', e2]
  first
   | (refine q_skip ?_ ?_
      · rfl)
   | (refine q_call ?_ (.bool true) ?_ ?_ ?_ ?_ ?_
      · kernel_rfl
      rotate_left 2
      · intro w_ hw_
        go_simp
        refine ⟨?_, ?_⟩ <;> with_reducible rfl
      · intro w_ hw_
        have c0 := Mine.at hw_ 0 _ rfl
        have c1 := Mine.at hw_ 1 _ rfl
        have c2 := Mine.at hw_ 2 _ rfl
        have cl := Mine.lt hw_
        exact (hty _).mono fun _ _ ⟨h1_, h2_⟩ => ⟨h1_, hw_.next h2_⟩)
  try simp only [Act.put, List.setIfInBounds_toArray, List.set_cons_zero, List.set_cons_succ]
  try simp only [e1, e1', e2]
  first
   | (refine q_skip ?_ ?_
      · rfl)
   | (refine q_run ?_ ?_ ?_ ?_
      · kernel_rfl
      rotate_left
      · intro w_ hw_
        have c0 := Mine.at hw_ 0 _ rfl
        have c1 := Mine.at hw_ 1 _ rfl
        have c2 := Mine.at hw_ 2 _ rfl
        have cl := Mine.lt hw_
        first | (go_simp; done) | (go_simp; with_reducible rfl) | (go_simp; rw [if_neg (by first | omega | (simp; omega))]))
  try simp only [Act.put, List.setIfInBounds_toArray, List.set_cons_zero, List.set_cons_succ]
  try simp only [e1, e1', e2]
  first
   | (refine q_skip ?_ ?_
      · rfl)
   | (refine q_run ?_ ?_ ?_ ?_
      · kernel_rfl
      rotate_left
      · intro w_ hw_
        have c0 := Mine.at hw_ 0 _ rfl
        have c1 := Mine.at hw_ 1 _ rfl
        have c2 := Mine.at hw_ 2 _ rfl
        have cl := Mine.lt hw_
        first | (go_simp; done) | (go_simp; with_reducible rfl) | (go_simp; rw [if_neg (by first | omega | (simp; omega))]))
  try simp only [Act.put, List.setIfInBounds_toArray, List.set_cons_zero, List.set_cons_succ]
  try simp only [e1, e1', e2]
  first
   | (refine q_skip ?_ ?_
      · rfl)
   | (refine q_run ?_ ?_ ?_ ?_
      · kernel_rfl
      rotate_left
      · intro w_ hw_
        have c0 := Mine.at hw_ 0 _ rfl
        have c1 := Mine.at hw_ 1 _ rfl
        have c2 := Mine.at hw_ 2 _ rfl
        have cl := Mine.lt hw_
        first | (go_simp; done) | (go_simp; with_reducible rfl) | (go_simp; rw [if_neg (by first | omega | (simp; omega))]))
  try simp only [Act.put, List.setIfInBounds_toArray, List.set_cons_zero, List.set_cons_succ]
  try simp only [e1, e1', e2]
  first
   | (refine q_skip ?_ ?_
      · rfl)
   | (refine q_run ?_ ?_ ?_ ?_
      · kernel_rfl
      rotate_left
      · intro w_ hw_
        have c0 := Mine.at hw_ 0 _ rfl
        have c1 := Mine.at hw_ 1 _ rfl
        have c2 := Mine.at hw_ 2 _ rfl
        have cl := Mine.lt hw_
        first | (go_simp; done) | (go_simp; with_reducible rfl) | (go_simp; rw [if_neg (by first | omega | (simp; omega))]))
  try simp only [Act.put, List.setIfInBounds_toArray, List.set_cons_zero, List.set_cons_succ]
  try simp only [e1, e1', e2]
  first
   | (refine q_skip ?_ ?_
      · rfl)
   | (refine q_call ?_ (.string (⟨(Txt.upper kd.data.toList).toArray⟩ : ByteArray)) ?_ ?_ ?_ ?_ ?_
      · kernel_rfl
      rotate_left 2
      · intro w_ hw_
        go_simp
        refine ⟨?_, ?_⟩ <;> with_reducible rfl
      · intro w_ hw_
        have c0 := Mine.at hw_ 0 _ rfl
        have c1 := Mine.at hw_ 1 _ rfl
        have c2 := Mine.at hw_ 2 _ rfl
        have cl := Mine.lt hw_
        exact (hup _).mono fun _ _ ⟨h1_, h2_⟩ => ⟨h1_, hw_.next h2_⟩)
  try simp only [Act.put, List.setIfInBounds_toArray, List.set_cons_zero, List.set_cons_succ]
  try simp only [e1, e1', e2]
  first
   | (refine q_skip ?_ ?_
      · rfl)
   | (refine q_run ?_ ?_ ?_ ?_
      · kernel_rfl
      rotate_left
      · intro w_ hw_
        have c0 := Mine.at hw_ 0 _ rfl
        have c1 := Mine.at hw_ 1 _ rfl
        have c2 := Mine.at hw_ 2 _ rfl
        have cl := Mine.lt hw_
        first | (go_simp; done) | (go_simp; with_reducible rfl) | (go_simp; rw [if_neg (by first | omega | (simp; omega))]))
  try simp only [Act.put, List.setIfInBounds_toArray, List.set_cons_zero, List.set_cons_succ]
  try simp only [e1, e1', e2]
  first
   | (refine q_skip ?_ ?_
      · rfl)
   | (refine q_run ?_ ?_ ?_ ?_
      · kernel_rfl
      rotate_left
      · intro w_ hw_
        have c0 := Mine.at hw_ 0 _ rfl
        have c1 := Mine.at hw_ 1 _ rfl
        have c2 := Mine.at hw_ 2 _ rfl
        have cl := Mine.lt hw_
        first | (go_simp; done) | (go_simp; with_reducible rfl) | (go_simp; rw [if_neg (by first | omega | (simp; omega))]))
  try simp only [Act.put, List.setIfInBounds_toArray, List.set_cons_zero, List.set_cons_succ]
  try simp only [e1, e1', e2]
  first
   | (refine q_skip ?_ ?_
      · rfl)
   | (refine q_run ?_ ?_ ?_ ?_
      · kernel_rfl
      rotate_left
      · intro w_ hw_
        have c0 := Mine.at hw_ 0 _ rfl
        have c1 := Mine.at hw_ 1 _ rfl
        have c2 := Mine.at hw_ 2 _ rfl
        have cl := Mine.lt hw_
        first | (go_simp; done) | (go_simp; with_reducible rfl) | (go_simp; rw [if_neg (by first | omega | (simp; omega))]))
  try simp only [Act.put, List.setIfInBounds_toArray, List.set_cons_zero, List.set_cons_succ]
  try simp only [e1, e1', e2]
  first
   | (refine q_skip ?_ ?_
      · rfl)
   | (refine q_run ?_ ?_ ?_ ?_
      · kernel_rfl
      rotate_left
      · intro w_ hw_
        have c0 := Mine.at hw_ 0 _ rfl
        have c1 := Mine.at hw_ 1 _ rfl
        have c2 := Mine.at hw_ 2 _ rfl
        have cl := Mine.lt hw_
        first | (go_simp; done) | (go_simp; with_reducible rfl) | (go_simp; rw [if_neg (by first | omega | (simp; omega))]))
  try simp only [Act.put, List.setIfInBounds_toArray, List.set_cons_zero, List.set_cons_succ]
  try simp only [e1, e1', e2]
  first
   | (refine q_skip ?_ ?_
      · rfl)
   | (refine q_run ?_ ?_ ?_ ?_
      · kernel_rfl
      rotate_left
      · intro w_ hw_
        have c0 := Mine.at hw_ 0 _ rfl
        have c1 := Mine.at hw_ 1 _ rfl
        have c2 := Mine.at hw_ 2 _ rfl
        have cl := Mine.lt hw_
        first | (go_simp; done) | (go_simp; with_reducible rfl) | (go_simp; rw [if_neg (by first | omega | (simp; omega))]))
  try simp only [Act.put, List.setIfInBounds_toArray, List.set_cons_zero, List.set_cons_succ]
  try simp only [e1, e1', e2]
  refine q_run ?_ ?_ ?_ ?_
  · kernel_rfl
  rotate_left
  · intro w_ hw_
    have c0 := Mine.at hw_ 0 _ rfl
    have c1 := Mine.at hw_ 1 _ rfl
    have c2 := Mine.at hw_ 2 _ rfl
    have cl := Mine.lt hw_
    first | (go_simp; done) | (go_simp; with_reducible rfl) | (go_simp; rw [if_neg (by first | omega | (simp; omega))])
  try simp only [Act.put, List.setIfInBounds_toArray, List.set_cons_zero, List.set_cons_succ]
  try simp only [e1, e1', e2]
  refine q_nil ?_
  intro W_ hC_
  replace M := Aside.mk hC_
  clear hC_ z0 z1 z2 zl
  have z0 := Mine.at M.out 0 _ rfl
  have z1 := Mine.at M.out 1 _ rfl
  have z2 := Mine.at M.out 2 _ rfl
  have zl := Mine.lt M.out
  go_wp2
  go_ret
  exact ⟨rfl, M.out.low⟩
set_option maxHeartbeats 4000000 in
theorem pr_B2 (nt kd oc : ByteArray) (hcon : Lib.containsS [⟨#[]⟩, ⟨#[78]⟩, ⟨#[83]⟩, ⟨#[70]⟩, ⟨#[68]⟩, ⟨#[83, 70]⟩, ⟨#[83, 68]⟩, ⟨#[70, 68]⟩, ⟨#[83, 70, 68]⟩] nt = true) (e1 : (kd.toList == []) = false) (e1' : (kd.toList != []) = true) (e2 : (oc.toList == []) = true)  (w : World) (hk : kd.size ≤ 100000) : Calls Tryz.prog 31 #[.agg #[.string nt, .string kd, .string oc]] w fun e w' => e = .returned (.int .i64 2) ∧ Below w.heap.size w w' := by
  have M : Aside (Mine w [(w.heap.size, #[.string nt, .string kd, .string oc], 41)] (w.alloc (.cells #[.string nt, .string kd, .string oc] 41))) := ⟨(Mine.start w).alloc #[.string nt, .string kd, .string oc] 41⟩
  have HC := Lib.hid (show (#[.string ⟨#[]⟩, .string ⟨#[78]⟩, .string ⟨#[83]⟩, .string ⟨#[70]⟩, .string ⟨#[68]⟩, .string ⟨#[83, 70]⟩, .string ⟨#[83, 68]⟩, .string ⟨#[70, 68]⟩, .string ⟨#[83, 70, 68]⟩] : Array Value) = (([⟨#[]⟩, ⟨#[78]⟩, ⟨#[83]⟩, ⟨#[70]⟩, ⟨#[68]⟩, ⟨#[83, 70]⟩, ⟨#[83, 68]⟩, ⟨#[70, 68]⟩, ⟨#[83, 70, 68]⟩] : List ByteArray).map Value.string).toArray from rfl)
  have hty := fun W => refTyped_any kd hk W
  have hup := fun W => refUpper_any kd hk W
  go_enter Tryz.func31, Tryz.ntmps31
  go_wp2_with (first | (go_at_call 68; (with_reducible refine (amongR_fresh nt [⟨#[]⟩, ⟨#[78]⟩, ⟨#[83]⟩, ⟨#[70]⟩, ⟨#[68]⟩, ⟨#[83, 70]⟩, ⟨#[83, 68]⟩, ⟨#[70, 68]⟩, ⟨#[83, 70, 68]⟩] #[.string ⟨#[]⟩, .string ⟨#[78]⟩, .string ⟨#[83]⟩, .string ⟨#[70]⟩, .string ⟨#[68]⟩, .string ⟨#[83, 70]⟩, .string ⟨#[83, 68]⟩, .string ⟨#[70, 68]⟩, .string ⟨#[83, 70, 68]⟩] HC.out 9 (show List.length _ = _ from rfl) (by decide) _ hcon (w.alloc (.cells #[.string nt, .string kd, .string oc] 41)) (w.heap.size + 1) (by simp)).mono ?_); rintro e W1 ⟨rfl, hb⟩; replace M := Aside.mk (M.out.next hb); clear hb; have z0 := Mine.at M.out 0 _ rfl; have z1 := Mine.at M.out 1 _ rfl; have z2 := Mine.at M.out 2 _ rfl; have zl := Mine.lt M.out))
  clear hcon
  refine region_class (C := (fun w' => Mine w [(w.heap.size, #[.string nt, .string kd, .string oc], 41)] w')) (by kernel_rfl) (by kernel_rfl) (M.out.drewN 1) ?_
  refine q_run ?_ ?_ ?_ ?_
  · kernel_rfl
  rotate_left
  · intro w_ hw_
    have c0 := Mine.at hw_ 0 _ rfl
    have c1 := Mine.at hw_ 1 _ rfl
    have c2 := Mine.at hw_ 2 _ rfl
    have cl := Mine.lt hw_
    first | (go_simp; done) | (go_simp; with_reducible rfl) | (go_simp; rw [if_neg (by first | omega | (simp; omega))])
  try simp only [Act.put, List.setIfInBounds_toArray, List.set_cons_zero, List.set_cons_succ]
  try simp only [e1, e1', e2]
  refine q_run ?_ ?_ ?_ ?_
  · kernel_rfl
  rotate_left
  · intro w_ hw_
    have c0 := Mine.at hw_ 0 _ rfl
    have c1 := Mine.at hw_ 1 _ rfl
    have c2 := Mine.at hw_ 2 _ rfl
    have cl := Mine.lt hw_
    first | (go_simp; done) | (go_simp; with_reducible rfl) | (go_simp; rw [if_neg (by first | omega | (simp; omega))])
  try simp only [Act.put, List.setIfInBounds_toArray, List.set_cons_zero, List.set_cons_succ]
  try simp only [e1, e1', e2]
  refine q_run ?_ ?_ ?_ ?_
  · kernel_rfl
  rotate_left
  · intro w_ hw_
    have c0 := Mine.at hw_ 0 _ rfl
    have c1 := Mine.at hw_ 1 _ rfl
    have c2 := Mine.at hw_ 2 _ rfl
    have cl := Mine.lt hw_
    first | (go_simp; done) | (go_simp; with_reducible rfl) | (go_simp; rw [if_neg (by first | omega | (simp; omega))])
  try simp only [Act.put, List.setIfInBounds_toArray, List.set_cons_zero, List.set_cons_succ]
  try simp only [e1, e1', e2]
  refine q_run ?_ ?_ ?_ ?_
  · kernel_rfl
  rotate_left
  · intro w_ hw_
    have c0 := Mine.at hw_ 0 _ rfl
    have c1 := Mine.at hw_ 1 _ rfl
    have c2 := Mine.at hw_ 2 _ rfl
    have cl := Mine.lt hw_
    first | (go_simp; done) | (go_simp; with_reducible rfl) | (go_simp; rw [if_neg (by first | omega | (simp; omega))])
  try simp only [Act.put, List.setIfInBounds_toArray, List.set_cons_zero, List.set_cons_succ]
  try simp only [e1, e1', e2]
  first
   | (refine q_skip ?_ ?_
      · rfl)
   | (refine q_run ?_ ?_ ?_ ?_
      · kernel_rfl
      rotate_left
      · intro w_ hw_
        have c0 := Mine.at hw_ 0 _ rfl
        have c1 := Mine.at hw_ 1 _ rfl
        have c2 := Mine.at hw_ 2 _ rfl
        have cl := Mine.lt hw_
        first | (go_simp; done) | (go_simp; with_reducible rfl) | (go_simp; rw [if_neg (by first | omega | (simp; omega))]))
  try simp only [Act.put, List.setIfInBounds_toArray, List.set_cons_zero, List.set_cons_succ]
  try simp only [e1, e1', e2]
  first
   | (refine q_skip ?_ ?_
      · rfl)
   | (refine q_run ?_ ?_ ?_ ?_
      · kernel_rfl
      rotate_left
      · intro w_ hw_
        have c0 := Mine.at hw_ 0 _ rfl
        have c1 := Mine.at hw_ 1 _ rfl
        have c2 := Mine.at hw_ 2 _ rfl
        have cl := Mine.lt hw_
        first | (go_simp; done) | (go_simp; with_reducible rfl) | (go_simp; rw [if_neg (by first | omega | (simp; omega))]))
  try simp only [Act.put, List.setIfInBounds_toArray, List.set_cons_zero, List.set_cons_succ]
  try simp only [e1, e1', e2]
  first
   | (refine q_skip ?_ ?_
      · rfl)
   | (refine q_run ?_ ?_ ?_ ?_
      · kernel_rfl
      rotate_left
      · intro w_ hw_
        have c0 := Mine.at hw_ 0 _ rfl
        have c1 := Mine.at hw_ 1 _ rfl
        have c2 := Mine.at hw_ 2 _ rfl
        have cl := Mine.lt hw_
        first | (go_simp; done) | (go_simp; with_reducible rfl) | (go_simp; rw [if_neg (by first | omega | (simp; omega))]))
  try simp only [Act.put, List.setIfInBounds_toArray, List.set_cons_zero, List.set_cons_succ]
  try simp only [e1, e1', e2]
  refine q_run ?_ ?_ ?_ ?_
  · kernel_rfl
  rotate_left
  · intro w_ hw_
    have c0 := Mine.at hw_ 0 _ rfl
    have c1 := Mine.at hw_ 1 _ rfl
    have c2 := Mine.at hw_ 2 _ rfl
    have cl := Mine.lt hw_
    first | (go_simp; done) | (go_simp; with_reducible rfl) | (go_simp; rw [if_neg (by first | omega | (simp; omega))])
  try simp only [Act.put, List.setIfInBounds_toArray, List.set_cons_zero, List.set_cons_succ]
  try simp only [e1, e1', e2]
  refine q_run ?_ ?_ ?_ ?_
  · kernel_rfl
  rotate_left
  · intro w_ hw_
    have c0 := Mine.at hw_ 0 _ rfl
    have c1 := Mine.at hw_ 1 _ rfl
    have c2 := Mine.at hw_ 2 _ rfl
    have cl := Mine.lt hw_
    first | (go_simp; done) | (go_simp; with_reducible rfl) | (go_simp; rw [if_neg (by first | omega | (simp; omega))])
  try simp only [Act.put, List.setIfInBounds_toArray, List.set_cons_zero, List.set_cons_succ]
  try simp only [e1, e1', e2]
  first
   | (refine q_skip ?_ ?_
      · rfl)
   | (refine q_run ?_ ?_ ?_ ?_
      · kernel_rfl
      rotate_left
      · intro w_ hw_
        have c0 := Mine.at hw_ 0 _ rfl
        have c1 := Mine.at hw_ 1 _ rfl
        have c2 := Mine.at hw_ 2 _ rfl
        have cl := Mine.lt hw_
        first | (go_simp; done) | (go_simp; with_reducible rfl) | (go_simp; rw [if_neg (by first | omega | (simp; omega))]))
  try simp only [Act.put, List.setIfInBounds_toArray, List.set_cons_zero, List.set_cons_succ]
  try simp only [e1, e1', e2]
  first
   | (refine q_skip ?_ ?_
      · rfl)
   | (refine q_run ?_ ?_ ?_ ?_
      · kernel_rfl
      rotate_left
      · intro w_ hw_
        have c0 := Mine.at hw_ 0 _ rfl
        have c1 := Mine.at hw_ 1 _ rfl
        have c2 := Mine.at hw_ 2 _ rfl
        have cl := Mine.lt hw_
        first | (go_simp; done) | (go_simp; with_reducible rfl) | (go_simp; rw [if_neg (by first | omega | (simp; omega))]))
  try simp only [Act.put, List.setIfInBounds_toArray, List.set_cons_zero, List.set_cons_succ]
  try simp only [e1, e1', e2]
  first
   | (refine q_skip ?_ ?_
      · rfl)
   | (refine q_run ?_ ?_ ?_ ?_
      · kernel_rfl
      rotate_left
      · intro w_ hw_
        have c0 := Mine.at hw_ 0 _ rfl
        have c1 := Mine.at hw_ 1 _ rfl
        have c2 := Mine.at hw_ 2 _ rfl
        have cl := Mine.lt hw_
        first | (go_simp; done) | (go_simp; with_reducible rfl) | (go_simp; rw [if_neg (by first | omega | (simp; omega))]))
  try simp only [Act.put, List.setIfInBounds_toArray, List.set_cons_zero, List.set_cons_succ]
  try simp only [e1, e1', e2]
  first
   | (refine q_skip ?_ ?_
      · rfl)
   | (refine q_run ?_ ?_ ?_ ?_
      · kernel_rfl
      rotate_left
      · intro w_ hw_
        have c0 := Mine.at hw_ 0 _ rfl
        have c1 := Mine.at hw_ 1 _ rfl
        have c2 := Mine.at hw_ 2 _ rfl
        have cl := Mine.lt hw_
        first | (go_simp; done) | (go_simp; with_reducible rfl) | (go_simp; rw [if_neg (by first | omega | (simp; omega))]))
  try simp only [Act.put, List.setIfInBounds_toArray, List.set_cons_zero, List.set_cons_succ]
  try simp only [e1, e1', e2]
  first
   | (refine q_skip ?_ ?_
      · rfl)
   | (refine q_run ?_ ?_ ?_ ?_
      · kernel_rfl
      rotate_left
      · intro w_ hw_
        have c0 := Mine.at hw_ 0 _ rfl
        have c1 := Mine.at hw_ 1 _ rfl
        have c2 := Mine.at hw_ 2 _ rfl
        have cl := Mine.lt hw_
        first | (go_simp; done) | (go_simp; with_reducible rfl) | (go_simp; rw [if_neg (by first | omega | (simp; omega))]))
  try simp only [Act.put, List.setIfInBounds_toArray, List.set_cons_zero, List.set_cons_succ]
  try simp only [e1, e1', e2]
  first
   | (refine q_skip ?_ ?_
      · rfl)
   | (refine q_run ?_ ?_ ?_ ?_
      · kernel_rfl
      rotate_left
      · intro w_ hw_
        have c0 := Mine.at hw_ 0 _ rfl
        have c1 := Mine.at hw_ 1 _ rfl
        have c2 := Mine.at hw_ 2 _ rfl
        have cl := Mine.lt hw_
        first | (go_simp; done) | (go_simp; with_reducible rfl) | (go_simp; rw [if_neg (by first | omega | (simp; omega))]))
  try simp only [Act.put, List.setIfInBounds_toArray, List.set_cons_zero, List.set_cons_succ]
  try simp only [e1, e1', e2]
  first
   | (refine q_skip ?_ ?_
      · rfl)
   | (refine q_run ?_ ?_ ?_ ?_
      · kernel_rfl
      rotate_left
      · intro w_ hw_
        have c0 := Mine.at hw_ 0 _ rfl
        have c1 := Mine.at hw_ 1 _ rfl
        have c2 := Mine.at hw_ 2 _ rfl
        have cl := Mine.lt hw_
        first | (go_simp; done) | (go_simp; with_reducible rfl) | (go_simp; rw [if_neg (by first | omega | (simp; omega))]))
  try simp only [Act.put, List.setIfInBounds_toArray, List.set_cons_zero, List.set_cons_succ]
  try simp only [e1, e1', e2]
  first
   | (refine q_skip ?_ ?_
      · rfl)
   | (refine q_run ?_ ?_ ?_ ?_
      · kernel_rfl
      rotate_left
      · intro w_ hw_
        have c0 := Mine.at hw_ 0 _ rfl
        have c1 := Mine.at hw_ 1 _ rfl
        have c2 := Mine.at hw_ 2 _ rfl
        have cl := Mine.lt hw_
        first | (go_simp; done) | (go_simp; with_reducible rfl) | (go_simp; rw [if_neg (by first | omega | (simp; omega))]))
  try simp only [Act.put, List.setIfInBounds_toArray, List.set_cons_zero, List.set_cons_succ]
  try simp only [e1, e1', e2]
  refine q_run ?_ ?_ ?_ ?_
  · kernel_rfl
  rotate_left
  · intro w_ hw_
    have c0 := Mine.at hw_ 0 _ rfl
    have c1 := Mine.at hw_ 1 _ rfl
    have c2 := Mine.at hw_ 2 _ rfl
    have cl := Mine.lt hw_
    first | (go_simp; done) | (go_simp; with_reducible rfl) | (go_simp; rw [if_neg (by first | omega | (simp; omega))])
  try simp only [Act.put, List.setIfInBounds_toArray, List.set_cons_zero, List.set_cons_succ]
  try simp only [e1, e1', e2]
  refine q_run ?_ ?_ ?_ ?_
  · kernel_rfl
  rotate_left
  · intro w_ hw_
    have c0 := Mine.at hw_ 0 _ rfl
    have c1 := Mine.at hw_ 1 _ rfl
    have c2 := Mine.at hw_ 2 _ rfl
    have cl := Mine.lt hw_
    first | (go_simp; done) | (go_simp; with_reducible rfl) | (go_simp; rw [if_neg (by first | omega | (simp; omega))])
  try simp only [Act.put, List.setIfInBounds_toArray, List.set_cons_zero, List.set_cons_succ]
  try simp only [e1, e1', e2]
  first
   | (refine q_skip ?_ ?_
      · rfl)
   | (refine q_run ?_ ?_ ?_ ?_
      · kernel_rfl
      rotate_left
      · intro w_ hw_
        have c0 := Mine.at hw_ 0 _ rfl
        have c1 := Mine.at hw_ 1 _ rfl
        have c2 := Mine.at hw_ 2 _ rfl
        have cl := Mine.lt hw_
        first | (go_simp; done) | (go_simp; with_reducible rfl) | (go_simp; rw [if_neg (by first | omega | (simp; omega))]))
  try simp only [Act.put, List.setIfInBounds_toArray, List.set_cons_zero, List.set_cons_succ]
  try simp only [e1, e1', e2]
  first
   | (refine q_skip ?_ ?_
      · rfl)
   | (refine q_run ?_ ?_ ?_ ?_
      · kernel_rfl
      rotate_left
      · intro w_ hw_
        have c0 := Mine.at hw_ 0 _ rfl
        have c1 := Mine.at hw_ 1 _ rfl
        have c2 := Mine.at hw_ 2 _ rfl
        have cl := Mine.lt hw_
        first | (go_simp; done) | (go_simp; with_reducible rfl) | (go_simp; rw [if_neg (by first | omega | (simp; omega))]))
  try simp only [Act.put, List.setIfInBounds_toArray, List.set_cons_zero, List.set_cons_succ]
  try simp only [e1, e1', e2]
  first
   | (refine q_skip ?_ ?_
      · rfl)
   | (refine q_run ?_ ?_ ?_ ?_
      · kernel_rfl
      rotate_left
      · intro w_ hw_
        have c0 := Mine.at hw_ 0 _ rfl
        have c1 := Mine.at hw_ 1 _ rfl
        have c2 := Mine.at hw_ 2 _ rfl
        have cl := Mine.lt hw_
        first | (go_simp; done) | (go_simp; with_reducible rfl) | (go_simp; rw [if_neg (by first | omega | (simp; omega))]))
  try simp only [Act.put, List.setIfInBounds_toArray, List.set_cons_zero, List.set_cons_succ]
  try simp only [e1, e1', e2]
  first
   | (refine q_skip ?_ ?_
      · rfl)
   | (refine q_run ?_ ?_ ?_ ?_
      · kernel_rfl
      rotate_left
      · intro w_ hw_
        have c0 := Mine.at hw_ 0 _ rfl
        have c1 := Mine.at hw_ 1 _ rfl
        have c2 := Mine.at hw_ 2 _ rfl
        have cl := Mine.lt hw_
        first | (go_simp; done) | (go_simp; with_reducible rfl) | (go_simp; rw [if_neg (by first | omega | (simp; omega))]))
  try simp only [Act.put, List.setIfInBounds_toArray, List.set_cons_zero, List.set_cons_succ]
  try simp only [e1, e1', e2]
  first
   | (refine q_skip ?_ ?_
      · rfl)
   | (refine q_run ?_ ?_ ?_ ?_
      · kernel_rfl
      rotate_left
      · intro w_ hw_
        have c0 := Mine.at hw_ 0 _ rfl
        have c1 := Mine.at hw_ 1 _ rfl
        have c2 := Mine.at hw_ 2 _ rfl
        have cl := Mine.lt hw_
        first | (go_simp; done) | (go_simp; with_reducible rfl) | (go_simp; rw [if_neg (by first | omega | (simp; omega))]))
  try simp only [Act.put, List.setIfInBounds_toArray, List.set_cons_zero, List.set_cons_succ]
  try simp only [e1, e1', e2]
  first
   | (refine q_skip ?_ ?_
      · rfl)
   | (refine q_run ?_ ?_ ?_ ?_
      · kernel_rfl
      rotate_left
      · intro w_ hw_
        have c0 := Mine.at hw_ 0 _ rfl
        have c1 := Mine.at hw_ 1 _ rfl
        have c2 := Mine.at hw_ 2 _ rfl
        have cl := Mine.lt hw_
        first | (go_simp; done) | (go_simp; with_reducible rfl) | (go_simp; rw [if_neg (by first | omega | (simp; omega))]))
  try simp only [Act.put, List.setIfInBounds_toArray, List.set_cons_zero, List.set_cons_succ]
  try simp only [e1, e1', e2]
  first
   | (refine q_skip ?_ ?_
      · rfl)
   | (refine q_call ?_ (.bool true) ?_ ?_ ?_ ?_ ?_
      · kernel_rfl
      rotate_left 2
      · intro w_ hw_
        go_simp
        refine ⟨?_, ?_⟩ <;> with_reducible rfl
      · intro w_ hw_
        have c0 := Mine.at hw_ 0 _ rfl
        have c1 := Mine.at hw_ 1 _ rfl
        have c2 := Mine.at hw_ 2 _ rfl
        have cl := Mine.lt hw_
        exact (hty _).mono fun _ _ ⟨h1_, h2_⟩ => ⟨h1_, hw_.next h2_⟩)
  try simp only [Act.put, List.setIfInBounds_toArray, List.set_cons_zero, List.set_cons_succ]
  try simp only [e1, e1', e2]
  first
   | (refine q_skip ?_ ?_
      · rfl)
   | (refine q_run ?_ ?_ ?_ ?_
      · kernel_rfl
      rotate_left
      · intro w_ hw_
        have c0 := Mine.at hw_ 0 _ rfl
        have c1 := Mine.at hw_ 1 _ rfl
        have c2 := Mine.at hw_ 2 _ rfl
        have cl := Mine.lt hw_
        first | (go_simp; done) | (go_simp; with_reducible rfl) | (go_simp; rw [if_neg (by first | omega | (simp; omega))]))
  try simp only [Act.put, List.setIfInBounds_toArray, List.set_cons_zero, List.set_cons_succ]
  try simp only [e1, e1', e2]
  first
   | (refine q_skip ?_ ?_
      · rfl)
   | (refine q_run ?_ ?_ ?_ ?_
      · kernel_rfl
      rotate_left
      · intro w_ hw_
        have c0 := Mine.at hw_ 0 _ rfl
        have c1 := Mine.at hw_ 1 _ rfl
        have c2 := Mine.at hw_ 2 _ rfl
        have cl := Mine.lt hw_
        first | (go_simp; done) | (go_simp; with_reducible rfl) | (go_simp; rw [if_neg (by first | omega | (simp; omega))]))
  try simp only [Act.put, List.setIfInBounds_toArray, List.set_cons_zero, List.set_cons_succ]
  try simp only [e1, e1', e2]
  first
   | (refine q_skip ?_ ?_
      · rfl)
   | (refine q_run ?_ ?_ ?_ ?_
      · kernel_rfl
      rotate_left
      · intro w_ hw_
        have c0 := Mine.at hw_ 0 _ rfl
        have c1 := Mine.at hw_ 1 _ rfl
        have c2 := Mine.at hw_ 2 _ rfl
        have cl := Mine.lt hw_
        first | (go_simp; done) | (go_simp; with_reducible rfl) | (go_simp; rw [if_neg (by first | omega | (simp; omega))]))
  try simp only [Act.put, List.setIfInBounds_toArray, List.set_cons_zero, List.set_cons_succ]
  try simp only [e1, e1', e2]
  first
   | (refine q_skip ?_ ?_
      · rfl)
   | (refine q_run ?_ ?_ ?_ ?_
      · kernel_rfl
      rotate_left
      · intro w_ hw_
        have c0 := Mine.at hw_ 0 _ rfl
        have c1 := Mine.at hw_ 1 _ rfl
        have c2 := Mine.at hw_ 2 _ rfl
        have cl := Mine.lt hw_
        first | (go_simp; done) | (go_simp; with_reducible rfl) | (go_simp; rw [if_neg (by first | omega | (simp; omega))]))
  try simp only [Act.put, List.setIfInBounds_toArray, List.set_cons_zero, List.set_cons_succ]
  try simp only [e1, e1', e2]
  first
   | (refine q_skip ?_ ?_
      · rfl)
   | (refine q_call ?_ (.string (⟨(Txt.upper kd.data.toList).toArray⟩ : ByteArray)) ?_ ?_ ?_ ?_ ?_
      · kernel_rfl
      rotate_left 2
      · intro w_ hw_
        go_simp
        refine ⟨?_, ?_⟩ <;> with_reducible rfl
      · intro w_ hw_
        have c0 := Mine.at hw_ 0 _ rfl
        have c1 := Mine.at hw_ 1 _ rfl
        have c2 := Mine.at hw_ 2 _ rfl
        have cl := Mine.lt hw_
        exact (hup _).mono fun _ _ ⟨h1_, h2_⟩ => ⟨h1_, hw_.next h2_⟩)
  try simp only [Act.put, List.setIfInBounds_toArray, List.set_cons_zero, List.set_cons_succ]
  try simp only [e1, e1', e2]
  first
   | (refine q_skip ?_ ?_
      · rfl)
   | (refine q_run ?_ ?_ ?_ ?_
      · kernel_rfl
      rotate_left
      · intro w_ hw_
        have c0 := Mine.at hw_ 0 _ rfl
        have c1 := Mine.at hw_ 1 _ rfl
        have c2 := Mine.at hw_ 2 _ rfl
        have cl := Mine.lt hw_
        first | (go_simp; done) | (go_simp; with_reducible rfl) | (go_simp; rw [if_neg (by first | omega | (simp; omega))]))
  try simp only [Act.put, List.setIfInBounds_toArray, List.set_cons_zero, List.set_cons_succ]
  try simp only [e1, e1', e2]
  first
   | (refine q_skip ?_ ?_
      · rfl)
   | (refine q_run ?_ ?_ ?_ ?_
      · kernel_rfl
      rotate_left
      · intro w_ hw_
        have c0 := Mine.at hw_ 0 _ rfl
        have c1 := Mine.at hw_ 1 _ rfl
        have c2 := Mine.at hw_ 2 _ rfl
        have cl := Mine.lt hw_
        first | (go_simp; done) | (go_simp; with_reducible rfl) | (go_simp; rw [if_neg (by first | omega | (simp; omega))]))
  try simp only [Act.put, List.setIfInBounds_toArray, List.set_cons_zero, List.set_cons_succ]
  try simp only [e1, e1', e2]
  first
   | (refine q_skip ?_ ?_
      · rfl)
   | (refine q_run ?_ ?_ ?_ ?_
      · kernel_rfl
      rotate_left
      · intro w_ hw_
        have c0 := Mine.at hw_ 0 _ rfl
        have c1 := Mine.at hw_ 1 _ rfl
        have c2 := Mine.at hw_ 2 _ rfl
        have cl := Mine.lt hw_
        first | (go_simp; done) | (go_simp; with_reducible rfl) | (go_simp; rw [if_neg (by first | omega | (simp; omega))]))
  try simp only [Act.put, List.setIfInBounds_toArray, List.set_cons_zero, List.set_cons_succ]
  try simp only [e1, e1', e2]
  first
   | (refine q_skip ?_ ?_
      · rfl)
   | (refine q_run ?_ ?_ ?_ ?_
      · kernel_rfl
      rotate_left
      · intro w_ hw_
        have c0 := Mine.at hw_ 0 _ rfl
        have c1 := Mine.at hw_ 1 _ rfl
        have c2 := Mine.at hw_ 2 _ rfl
        have cl := Mine.lt hw_
        first | (go_simp; done) | (go_simp; with_reducible rfl) | (go_simp; rw [if_neg (by first | omega | (simp; omega))]))
  try simp only [Act.put, List.setIfInBounds_toArray, List.set_cons_zero, List.set_cons_succ]
  try simp only [e1, e1', e2]
  first
   | (refine q_skip ?_ ?_
      · rfl)
   | (refine q_run ?_ ?_ ?_ ?_
      · kernel_rfl
      rotate_left
      · intro w_ hw_
        have c0 := Mine.at hw_ 0 _ rfl
        have c1 := Mine.at hw_ 1 _ rfl
        have c2 := Mine.at hw_ 2 _ rfl
        have cl := Mine.lt hw_
        first | (go_simp; done) | (go_simp; with_reducible rfl) | (go_simp; rw [if_neg (by first | omega | (simp; omega))]))
  try simp only [Act.put, List.setIfInBounds_toArray, List.set_cons_zero, List.set_cons_succ]
  try simp only [e1, e1', e2]
  refine q_run ?_ ?_ ?_ ?_
  · kernel_rfl
  rotate_left
  · intro w_ hw_
    have c0 := Mine.at hw_ 0 _ rfl
    have c1 := Mine.at hw_ 1 _ rfl
    have c2 := Mine.at hw_ 2 _ rfl
    have cl := Mine.lt hw_
    first | (go_simp; done) | (go_simp; with_reducible rfl) | (go_simp; rw [if_neg (by first | omega | (simp; omega))])
  try simp only [Act.put, List.setIfInBounds_toArray, List.set_cons_zero, List.set_cons_succ]
  try simp only [e1, e1', e2]
  refine q_nil ?_
  intro W_ hC_
  replace M := Aside.mk hC_
  clear hC_ z0 z1 z2 zl
  have z0 := Mine.at M.out 0 _ rfl
  have z1 := Mine.at M.out 1 _ rfl
  have z2 := Mine.at M.out 2 _ rfl
  have zl := Mine.lt M.out
  go_wp2
  go_ret
  exact ⟨rfl, M.out.low⟩
set_option maxHeartbeats 4000000 in
theorem pr_Cs (nt kd oc : ByteArray) (hcon : Lib.containsS [⟨#[]⟩, ⟨#[78]⟩, ⟨#[83]⟩, ⟨#[70]⟩, ⟨#[68]⟩, ⟨#[83, 70]⟩, ⟨#[83, 68]⟩, ⟨#[70, 68]⟩, ⟨#[83, 70, 68]⟩] nt = true) (e1 : (kd.toList == []) = true) (e1' : (kd.toList != []) = false) (e2 : (oc.toList == []) = true) (hz : (256 : Int) < (oc.size : Int)) (w : World) (hk : kd.size ≤ 100000) : Calls Tryz.prog 31 #[.agg #[.string nt, .string kd, .string oc]] w fun e w' => e = .returned (.int .i64 3) ∧ Below w.heap.size w w' := by
  have M : Aside (Mine w [(w.heap.size, #[.string nt, .string kd, .string oc], 41)] (w.alloc (.cells #[.string nt, .string kd, .string oc] 41))) := ⟨(Mine.start w).alloc #[.string nt, .string kd, .string oc] 41⟩
  have HC := Lib.hid (show (#[.string ⟨#[]⟩, .string ⟨#[78]⟩, .string ⟨#[83]⟩, .string ⟨#[70]⟩, .string ⟨#[68]⟩, .string ⟨#[83, 70]⟩, .string ⟨#[83, 68]⟩, .string ⟨#[70, 68]⟩, .string ⟨#[83, 70, 68]⟩] : Array Value) = (([⟨#[]⟩, ⟨#[78]⟩, ⟨#[83]⟩, ⟨#[70]⟩, ⟨#[68]⟩, ⟨#[83, 70]⟩, ⟨#[83, 68]⟩, ⟨#[70, 68]⟩, ⟨#[83, 70, 68]⟩] : List ByteArray).map Value.string).toArray from rfl)
  have hty := fun W => refTyped_any kd hk W
  have hup := fun W => refUpper_any kd hk W
  go_enter Tryz.func31, Tryz.ntmps31
  go_wp2_with (first | (go_at_call 68; (with_reducible refine (amongR_fresh nt [⟨#[]⟩, ⟨#[78]⟩, ⟨#[83]⟩, ⟨#[70]⟩, ⟨#[68]⟩, ⟨#[83, 70]⟩, ⟨#[83, 68]⟩, ⟨#[70, 68]⟩, ⟨#[83, 70, 68]⟩] #[.string ⟨#[]⟩, .string ⟨#[78]⟩, .string ⟨#[83]⟩, .string ⟨#[70]⟩, .string ⟨#[68]⟩, .string ⟨#[83, 70]⟩, .string ⟨#[83, 68]⟩, .string ⟨#[70, 68]⟩, .string ⟨#[83, 70, 68]⟩] HC.out 9 (show List.length _ = _ from rfl) (by decide) _ hcon (w.alloc (.cells #[.string nt, .string kd, .string oc] 41)) (w.heap.size + 1) (by simp)).mono ?_); rintro e W1 ⟨rfl, hb⟩; replace M := Aside.mk (M.out.next hb); clear hb; have z0 := Mine.at M.out 0 _ rfl; have z1 := Mine.at M.out 1 _ rfl; have z2 := Mine.at M.out 2 _ rfl; have zl := Mine.lt M.out))
  clear hcon
  refine region_class (C := (fun w' => Mine w [(w.heap.size, #[.string nt, .string kd, .string oc], 41)] w')) (by kernel_rfl) (by kernel_rfl) (M.out.drewN 1) ?_
  refine q_run ?_ ?_ ?_ ?_
  · kernel_rfl
  rotate_left
  · intro w_ hw_
    have c0 := Mine.at hw_ 0 _ rfl
    have c1 := Mine.at hw_ 1 _ rfl
    have c2 := Mine.at hw_ 2 _ rfl
    have cl := Mine.lt hw_
    first | (go_simp; done) | (go_simp; with_reducible rfl) | (go_simp; rw [if_neg (by first | omega | (simp; omega))])
  try simp only [Act.put, List.setIfInBounds_toArray, List.set_cons_zero, List.set_cons_succ]
  try simp only [e1, e1', e2]
  refine q_run ?_ ?_ ?_ ?_
  · kernel_rfl
  rotate_left
  · intro w_ hw_
    have c0 := Mine.at hw_ 0 _ rfl
    have c1 := Mine.at hw_ 1 _ rfl
    have c2 := Mine.at hw_ 2 _ rfl
    have cl := Mine.lt hw_
    first | (go_simp; done) | (go_simp; with_reducible rfl) | (go_simp; rw [if_neg (by first | omega | (simp; omega))])
  try simp only [Act.put, List.setIfInBounds_toArray, List.set_cons_zero, List.set_cons_succ]
  try simp only [e1, e1', e2]
  refine q_run ?_ ?_ ?_ ?_
  · kernel_rfl
  rotate_left
  · intro w_ hw_
    have c0 := Mine.at hw_ 0 _ rfl
    have c1 := Mine.at hw_ 1 _ rfl
    have c2 := Mine.at hw_ 2 _ rfl
    have cl := Mine.lt hw_
    first | (go_simp; done) | (go_simp; with_reducible rfl) | (go_simp; rw [if_neg (by first | omega | (simp; omega))])
  try simp only [Act.put, List.setIfInBounds_toArray, List.set_cons_zero, List.set_cons_succ]
  try simp only [e1, e1', e2]
  refine q_run ?_ ?_ ?_ ?_
  · kernel_rfl
  rotate_left
  · intro w_ hw_
    have c0 := Mine.at hw_ 0 _ rfl
    have c1 := Mine.at hw_ 1 _ rfl
    have c2 := Mine.at hw_ 2 _ rfl
    have cl := Mine.lt hw_
    first | (go_simp; done) | (go_simp; with_reducible rfl) | (go_simp; rw [if_neg (by first | omega | (simp; omega))])
  try simp only [Act.put, List.setIfInBounds_toArray, List.set_cons_zero, List.set_cons_succ]
  try simp only [e1, e1', e2]
  first
   | (refine q_skip ?_ ?_
      · rfl)
   | (refine q_run ?_ ?_ ?_ ?_
      · kernel_rfl
      rotate_left
      · intro w_ hw_
        have c0 := Mine.at hw_ 0 _ rfl
        have c1 := Mine.at hw_ 1 _ rfl
        have c2 := Mine.at hw_ 2 _ rfl
        have cl := Mine.lt hw_
        first | (go_simp; done) | (go_simp; with_reducible rfl) | (go_simp; rw [if_neg (by first | omega | (simp; omega))]))
  try simp only [Act.put, List.setIfInBounds_toArray, List.set_cons_zero, List.set_cons_succ]
  try simp only [e1, e1', e2]
  first
   | (refine q_skip ?_ ?_
      · rfl)
   | (refine q_run ?_ ?_ ?_ ?_
      · kernel_rfl
      rotate_left
      · intro w_ hw_
        have c0 := Mine.at hw_ 0 _ rfl
        have c1 := Mine.at hw_ 1 _ rfl
        have c2 := Mine.at hw_ 2 _ rfl
        have cl := Mine.lt hw_
        first | (go_simp; done) | (go_simp; with_reducible rfl) | (go_simp; rw [if_neg (by first | omega | (simp; omega))]))
  try simp only [Act.put, List.setIfInBounds_toArray, List.set_cons_zero, List.set_cons_succ]
  try simp only [e1, e1', e2]
  first
   | (refine q_skip ?_ ?_
      · rfl)
   | (refine q_run ?_ ?_ ?_ ?_
      · kernel_rfl
      rotate_left
      · intro w_ hw_
        have c0 := Mine.at hw_ 0 _ rfl
        have c1 := Mine.at hw_ 1 _ rfl
        have c2 := Mine.at hw_ 2 _ rfl
        have cl := Mine.lt hw_
        first | (go_simp; done) | (go_simp; with_reducible rfl) | (go_simp; rw [if_neg (by first | omega | (simp; omega))]))
  try simp only [Act.put, List.setIfInBounds_toArray, List.set_cons_zero, List.set_cons_succ]
  try simp only [e1, e1', e2]
  refine q_run ?_ ?_ ?_ ?_
  · kernel_rfl
  rotate_left
  · intro w_ hw_
    have c0 := Mine.at hw_ 0 _ rfl
    have c1 := Mine.at hw_ 1 _ rfl
    have c2 := Mine.at hw_ 2 _ rfl
    have cl := Mine.lt hw_
    first | (go_simp; done) | (go_simp; with_reducible rfl) | (go_simp; rw [if_neg (by first | omega | (simp; omega))])
  try simp only [Act.put, List.setIfInBounds_toArray, List.set_cons_zero, List.set_cons_succ]
  try simp only [e1, e1', e2]
  refine q_run ?_ ?_ ?_ ?_
  · kernel_rfl
  rotate_left
  · intro w_ hw_
    have c0 := Mine.at hw_ 0 _ rfl
    have c1 := Mine.at hw_ 1 _ rfl
    have c2 := Mine.at hw_ 2 _ rfl
    have cl := Mine.lt hw_
    first | (go_simp; done) | (go_simp; with_reducible rfl) | (go_simp; rw [if_neg (by first | omega | (simp; omega))])
  try simp only [Act.put, List.setIfInBounds_toArray, List.set_cons_zero, List.set_cons_succ]
  try simp only [e1, e1', e2]
  first
   | (refine q_skip ?_ ?_
      · rfl)
   | (refine q_run ?_ ?_ ?_ ?_
      · kernel_rfl
      rotate_left
      · intro w_ hw_
        have c0 := Mine.at hw_ 0 _ rfl
        have c1 := Mine.at hw_ 1 _ rfl
        have c2 := Mine.at hw_ 2 _ rfl
        have cl := Mine.lt hw_
        first | (go_simp; done) | (go_simp; with_reducible rfl) | (go_simp; rw [if_neg (by first | omega | (simp; omega))]))
  try simp only [Act.put, List.setIfInBounds_toArray, List.set_cons_zero, List.set_cons_succ]
  try simp only [e1, e1', e2]
  first
   | (refine q_skip ?_ ?_
      · rfl)
   | (refine q_run ?_ ?_ ?_ ?_
      · kernel_rfl
      rotate_left
      · intro w_ hw_
        have c0 := Mine.at hw_ 0 _ rfl
        have c1 := Mine.at hw_ 1 _ rfl
        have c2 := Mine.at hw_ 2 _ rfl
        have cl := Mine.lt hw_
        first | (go_simp; done) | (go_simp; with_reducible rfl) | (go_simp; rw [if_neg (by first | omega | (simp; omega))]))
  try simp only [Act.put, List.setIfInBounds_toArray, List.set_cons_zero, List.set_cons_succ]
  try simp only [e1, e1', e2]
  first
   | (refine q_skip ?_ ?_
      · rfl)
   | (refine q_run ?_ ?_ ?_ ?_
      · kernel_rfl
      rotate_left
      · intro w_ hw_
        have c0 := Mine.at hw_ 0 _ rfl
        have c1 := Mine.at hw_ 1 _ rfl
        have c2 := Mine.at hw_ 2 _ rfl
        have cl := Mine.lt hw_
        first | (go_simp; done) | (go_simp; with_reducible rfl) | (go_simp; rw [if_neg (by first | omega | (simp; omega))]))
  try simp only [Act.put, List.setIfInBounds_toArray, List.set_cons_zero, List.set_cons_succ]
  try simp only [e1, e1', e2]
  first
   | (refine q_skip ?_ ?_
      · rfl)
   | (refine q_run ?_ ?_ ?_ ?_
      · kernel_rfl
      rotate_left
      · intro w_ hw_
        have c0 := Mine.at hw_ 0 _ rfl
        have c1 := Mine.at hw_ 1 _ rfl
        have c2 := Mine.at hw_ 2 _ rfl
        have cl := Mine.lt hw_
        first | (go_simp; done) | (go_simp; with_reducible rfl) | (go_simp; rw [if_neg (by first | omega | (simp; omega))]))
  try simp only [Act.put, List.setIfInBounds_toArray, List.set_cons_zero, List.set_cons_succ]
  try simp only [e1, e1', e2]
  first
   | (refine q_skip ?_ ?_
      · rfl)
   | (refine q_run ?_ ?_ ?_ ?_
      · kernel_rfl
      rotate_left
      · intro w_ hw_
        have c0 := Mine.at hw_ 0 _ rfl
        have c1 := Mine.at hw_ 1 _ rfl
        have c2 := Mine.at hw_ 2 _ rfl
        have cl := Mine.lt hw_
        first | (go_simp; done) | (go_simp; with_reducible rfl) | (go_simp; rw [if_neg (by first | omega | (simp; omega))]))
  try simp only [Act.put, List.setIfInBounds_toArray, List.set_cons_zero, List.set_cons_succ]
  try simp only [e1, e1', e2]
  first
   | (refine q_skip ?_ ?_
      · rfl)
   | (refine q_run ?_ ?_ ?_ ?_
      · kernel_rfl
      rotate_left
      · intro w_ hw_
        have c0 := Mine.at hw_ 0 _ rfl
        have c1 := Mine.at hw_ 1 _ rfl
        have c2 := Mine.at hw_ 2 _ rfl
        have cl := Mine.lt hw_
        first | (go_simp; done) | (go_simp; with_reducible rfl) | (go_simp; rw [if_neg (by first | omega | (simp; omega))]))
  try simp only [Act.put, List.setIfInBounds_toArray, List.set_cons_zero, List.set_cons_succ]
  try simp only [e1, e1', e2]
  first
   | (refine q_skip ?_ ?_
      · rfl)
   | (refine q_run ?_ ?_ ?_ ?_
      · kernel_rfl
      rotate_left
      · intro w_ hw_
        have c0 := Mine.at hw_ 0 _ rfl
        have c1 := Mine.at hw_ 1 _ rfl
        have c2 := Mine.at hw_ 2 _ rfl
        have cl := Mine.lt hw_
        first | (go_simp; done) | (go_simp; with_reducible rfl) | (go_simp; rw [if_neg (by first | omega | (simp; omega))]))
  try simp only [Act.put, List.setIfInBounds_toArray, List.set_cons_zero, List.set_cons_succ]
  try simp only [e1, e1', e2]
  first
   | (refine q_skip ?_ ?_
      · rfl)
   | (refine q_run ?_ ?_ ?_ ?_
      · kernel_rfl
      rotate_left
      · intro w_ hw_
        have c0 := Mine.at hw_ 0 _ rfl
        have c1 := Mine.at hw_ 1 _ rfl
        have c2 := Mine.at hw_ 2 _ rfl
        have cl := Mine.lt hw_
        first | (go_simp; done) | (go_simp; with_reducible rfl) | (go_simp; rw [if_neg (by first | omega | (simp; omega))]))
  try simp only [Act.put, List.setIfInBounds_toArray, List.set_cons_zero, List.set_cons_succ]
  try simp only [e1, e1', e2]
  refine q_run ?_ ?_ ?_ ?_
  · kernel_rfl
  rotate_left
  · intro w_ hw_
    have c0 := Mine.at hw_ 0 _ rfl
    have c1 := Mine.at hw_ 1 _ rfl
    have c2 := Mine.at hw_ 2 _ rfl
    have cl := Mine.lt hw_
    first | (go_simp; done) | (go_simp; with_reducible rfl) | (go_simp; rw [if_neg (by first | omega | (simp; omega))])
  try simp only [Act.put, List.setIfInBounds_toArray, List.set_cons_zero, List.set_cons_succ]
  try simp only [e1, e1', e2]
  refine q_run ?_ ?_ ?_ ?_
  · kernel_rfl
  rotate_left
  · intro w_ hw_
    have c0 := Mine.at hw_ 0 _ rfl
    have c1 := Mine.at hw_ 1 _ rfl
    have c2 := Mine.at hw_ 2 _ rfl
    have cl := Mine.lt hw_
    first | (go_simp; done) | (go_simp; with_reducible rfl) | (go_simp; rw [if_neg (by first | omega | (simp; omega))])
  try simp only [Act.put, List.setIfInBounds_toArray, List.set_cons_zero, List.set_cons_succ]
  try simp only [e1, e1', e2]
  first
   | (refine q_skip ?_ ?_
      · rfl)
   | (refine q_run ?_ ?_ ?_ ?_
      · kernel_rfl
      rotate_left
      · intro w_ hw_
        have c0 := Mine.at hw_ 0 _ rfl
        have c1 := Mine.at hw_ 1 _ rfl
        have c2 := Mine.at hw_ 2 _ rfl
        have cl := Mine.lt hw_
        first | (go_simp; done) | (go_simp; with_reducible rfl) | (go_simp; rw [if_neg (by first | omega | (simp; omega))]))
  try simp only [Act.put, List.setIfInBounds_toArray, List.set_cons_zero, List.set_cons_succ]
  try simp only [e1, e1', e2]
  first
   | (refine q_skip ?_ ?_
      · rfl)
   | (refine q_run ?_ ?_ ?_ ?_
      · kernel_rfl
      rotate_left
      · intro w_ hw_
        have c0 := Mine.at hw_ 0 _ rfl
        have c1 := Mine.at hw_ 1 _ rfl
        have c2 := Mine.at hw_ 2 _ rfl
        have cl := Mine.lt hw_
        first | (go_simp; done) | (go_simp; with_reducible rfl) | (go_simp; rw [if_neg (by first | omega | (simp; omega))]))
  try simp only [Act.put, List.setIfInBounds_toArray, List.set_cons_zero, List.set_cons_succ]
  try simp only [e1, e1', e2]
  first
   | (refine q_skip ?_ ?_
      · rfl)
   | (refine q_run ?_ ?_ ?_ ?_
      · kernel_rfl
      rotate_left
      · intro w_ hw_
        have c0 := Mine.at hw_ 0 _ rfl
        have c1 := Mine.at hw_ 1 _ rfl
        have c2 := Mine.at hw_ 2 _ rfl
        have cl := Mine.lt hw_
        first | (go_simp; done) | (go_simp; with_reducible rfl) | (go_simp; rw [if_neg (by first | omega | (simp; omega))]))
  try simp only [Act.put, List.setIfInBounds_toArray, List.set_cons_zero, List.set_cons_succ]
  try simp only [e1, e1', e2]
  first
   | (refine q_skip ?_ ?_
      · rfl)
   | (refine q_run ?_ ?_ ?_ ?_
      · kernel_rfl
      rotate_left
      · intro w_ hw_
        have c0 := Mine.at hw_ 0 _ rfl
        have c1 := Mine.at hw_ 1 _ rfl
        have c2 := Mine.at hw_ 2 _ rfl
        have cl := Mine.lt hw_
        first | (go_simp; done) | (go_simp; with_reducible rfl) | (go_simp; rw [if_neg (by first | omega | (simp; omega))]))
  try simp only [Act.put, List.setIfInBounds_toArray, List.set_cons_zero, List.set_cons_succ]
  try simp only [e1, e1', e2]
  first
   | (refine q_skip ?_ ?_
      · rfl)
   | (refine q_run ?_ ?_ ?_ ?_
      · kernel_rfl
      rotate_left
      · intro w_ hw_
        have c0 := Mine.at hw_ 0 _ rfl
        have c1 := Mine.at hw_ 1 _ rfl
        have c2 := Mine.at hw_ 2 _ rfl
        have cl := Mine.lt hw_
        first | (go_simp; done) | (go_simp; with_reducible rfl) | (go_simp; rw [if_neg (by first | omega | (simp; omega))]))
  try simp only [Act.put, List.setIfInBounds_toArray, List.set_cons_zero, List.set_cons_succ]
  try simp only [e1, e1', e2]
  first
   | (refine q_skip ?_ ?_
      · rfl)
   | (refine q_run ?_ ?_ ?_ ?_
      · kernel_rfl
      rotate_left
      · intro w_ hw_
        have c0 := Mine.at hw_ 0 _ rfl
        have c1 := Mine.at hw_ 1 _ rfl
        have c2 := Mine.at hw_ 2 _ rfl
        have cl := Mine.lt hw_
        first | (go_simp; done) | (go_simp; with_reducible rfl) | (go_simp; rw [if_neg (by first | omega | (simp; omega))]))
  try simp only [Act.put, List.setIfInBounds_toArray, List.set_cons_zero, List.set_cons_succ]
  try simp only [e1, e1', e2]
  first
   | (refine q_skip ?_ ?_
      · rfl)
   | (refine q_call ?_ (.bool true) ?_ ?_ ?_ ?_ ?_
      · kernel_rfl
      rotate_left 2
      · intro w_ hw_
        go_simp
        refine ⟨?_, ?_⟩ <;> with_reducible rfl
      · intro w_ hw_
        have c0 := Mine.at hw_ 0 _ rfl
        have c1 := Mine.at hw_ 1 _ rfl
        have c2 := Mine.at hw_ 2 _ rfl
        have cl := Mine.lt hw_
        exact (hty _).mono fun _ _ ⟨h1_, h2_⟩ => ⟨h1_, hw_.next h2_⟩)
  try simp only [Act.put, List.setIfInBounds_toArray, List.set_cons_zero, List.set_cons_succ]
  try simp only [e1, e1', e2]
  first
   | (refine q_skip ?_ ?_
      · rfl)
   | (refine q_run ?_ ?_ ?_ ?_
      · kernel_rfl
      rotate_left
      · intro w_ hw_
        have c0 := Mine.at hw_ 0 _ rfl
        have c1 := Mine.at hw_ 1 _ rfl
        have c2 := Mine.at hw_ 2 _ rfl
        have cl := Mine.lt hw_
        first | (go_simp; done) | (go_simp; with_reducible rfl) | (go_simp; rw [if_neg (by first | omega | (simp; omega))]))
  try simp only [Act.put, List.setIfInBounds_toArray, List.set_cons_zero, List.set_cons_succ]
  try simp only [e1, e1', e2]
  first
   | (refine q_skip ?_ ?_
      · rfl)
   | (refine q_run ?_ ?_ ?_ ?_
      · kernel_rfl
      rotate_left
      · intro w_ hw_
        have c0 := Mine.at hw_ 0 _ rfl
        have c1 := Mine.at hw_ 1 _ rfl
        have c2 := Mine.at hw_ 2 _ rfl
        have cl := Mine.lt hw_
        first | (go_simp; done) | (go_simp; with_reducible rfl) | (go_simp; rw [if_neg (by first | omega | (simp; omega))]))
  try simp only [Act.put, List.setIfInBounds_toArray, List.set_cons_zero, List.set_cons_succ]
  try simp only [e1, e1', e2]
  first
   | (refine q_skip ?_ ?_
      · rfl)
   | (refine q_run ?_ ?_ ?_ ?_
      · kernel_rfl
      rotate_left
      · intro w_ hw_
        have c0 := Mine.at hw_ 0 _ rfl
        have c1 := Mine.at hw_ 1 _ rfl
        have c2 := Mine.at hw_ 2 _ rfl
        have cl := Mine.lt hw_
        first | (go_simp; done) | (go_simp; with_reducible rfl) | (go_simp; rw [if_neg (by first | omega | (simp; omega))]))
  try simp only [Act.put, List.setIfInBounds_toArray, List.set_cons_zero, List.set_cons_succ]
  try simp only [e1, e1', e2]
  first
   | (refine q_skip ?_ ?_
      · rfl)
   | (refine q_run ?_ ?_ ?_ ?_
      · kernel_rfl
      rotate_left
      · intro w_ hw_
        have c0 := Mine.at hw_ 0 _ rfl
        have c1 := Mine.at hw_ 1 _ rfl
        have c2 := Mine.at hw_ 2 _ rfl
        have cl := Mine.lt hw_
        first | (go_simp; done) | (go_simp; with_reducible rfl) | (go_simp; rw [if_neg (by first | omega | (simp; omega))]))
  try simp only [Act.put, List.setIfInBounds_toArray, List.set_cons_zero, List.set_cons_succ]
  try simp only [e1, e1', e2]
  first
   | (refine q_skip ?_ ?_
      · rfl)
   | (refine q_call ?_ (.string (⟨(Txt.upper kd.data.toList).toArray⟩ : ByteArray)) ?_ ?_ ?_ ?_ ?_
      · kernel_rfl
      rotate_left 2
      · intro w_ hw_
        go_simp
        refine ⟨?_, ?_⟩ <;> with_reducible rfl
      · intro w_ hw_
        have c0 := Mine.at hw_ 0 _ rfl
        have c1 := Mine.at hw_ 1 _ rfl
        have c2 := Mine.at hw_ 2 _ rfl
        have cl := Mine.lt hw_
        exact (hup _).mono fun _ _ ⟨h1_, h2_⟩ => ⟨h1_, hw_.next h2_⟩)
  try simp only [Act.put, List.setIfInBounds_toArray, List.set_cons_zero, List.set_cons_succ]
  try simp only [e1, e1', e2]
  first
   | (refine q_skip ?_ ?_
      · rfl)
   | (refine q_run ?_ ?_ ?_ ?_
      · kernel_rfl
      rotate_left
      · intro w_ hw_
        have c0 := Mine.at hw_ 0 _ rfl
        have c1 := Mine.at hw_ 1 _ rfl
        have c2 := Mine.at hw_ 2 _ rfl
        have cl := Mine.lt hw_
        first | (go_simp; done) | (go_simp; with_reducible rfl) | (go_simp; rw [if_neg (by first | omega | (simp; omega))]))
  try simp only [Act.put, List.setIfInBounds_toArray, List.set_cons_zero, List.set_cons_succ]
  try simp only [e1, e1', e2]
  first
   | (refine q_skip ?_ ?_
      · rfl)
   | (refine q_run ?_ ?_ ?_ ?_
      · kernel_rfl
      rotate_left
      · intro w_ hw_
        have c0 := Mine.at hw_ 0 _ rfl
        have c1 := Mine.at hw_ 1 _ rfl
        have c2 := Mine.at hw_ 2 _ rfl
        have cl := Mine.lt hw_
        first | (go_simp; done) | (go_simp; with_reducible rfl) | (go_simp; rw [if_neg (by first | omega | (simp; omega))]))
  try simp only [Act.put, List.setIfInBounds_toArray, List.set_cons_zero, List.set_cons_succ]
  try simp only [e1, e1', e2]
  first
   | (refine q_skip ?_ ?_
      · rfl)
   | (refine q_run ?_ ?_ ?_ ?_
      · kernel_rfl
      rotate_left
      · intro w_ hw_
        have c0 := Mine.at hw_ 0 _ rfl
        have c1 := Mine.at hw_ 1 _ rfl
        have c2 := Mine.at hw_ 2 _ rfl
        have cl := Mine.lt hw_
        first | (go_simp; done) | (go_simp; with_reducible rfl) | (go_simp; rw [if_neg (by first | omega | (simp; omega))]))
  try simp only [Act.put, List.setIfInBounds_toArray, List.set_cons_zero, List.set_cons_succ]
  try simp only [e1, e1', e2]
  first
   | (refine q_skip ?_ ?_
      · rfl)
   | (refine q_run ?_ ?_ ?_ ?_
      · kernel_rfl
      rotate_left
      · intro w_ hw_
        have c0 := Mine.at hw_ 0 _ rfl
        have c1 := Mine.at hw_ 1 _ rfl
        have c2 := Mine.at hw_ 2 _ rfl
        have cl := Mine.lt hw_
        first | (go_simp; done) | (go_simp; with_reducible rfl) | (go_simp; rw [if_neg (by first | omega | (simp; omega))]))
  try simp only [Act.put, List.setIfInBounds_toArray, List.set_cons_zero, List.set_cons_succ]
  try simp only [e1, e1', e2]
  first
   | (refine q_skip ?_ ?_
      · rfl)
   | (refine q_run ?_ ?_ ?_ ?_
      · kernel_rfl
      rotate_left
      · intro w_ hw_
        have c0 := Mine.at hw_ 0 _ rfl
        have c1 := Mine.at hw_ 1 _ rfl
        have c2 := Mine.at hw_ 2 _ rfl
        have cl := Mine.lt hw_
        first | (go_simp; done) | (go_simp; with_reducible rfl) | (go_simp; rw [if_neg (by first | omega | (simp; omega))]))
  try simp only [Act.put, List.setIfInBounds_toArray, List.set_cons_zero, List.set_cons_succ]
  try simp only [e1, e1', e2]
  refine q_run ?_ ?_ ?_ ?_
  · kernel_rfl
  rotate_left
  · intro w_ hw_
    have c0 := Mine.at hw_ 0 _ rfl
    have c1 := Mine.at hw_ 1 _ rfl
    have c2 := Mine.at hw_ 2 _ rfl
    have cl := Mine.lt hw_
    first | (go_simp; done) | (go_simp; with_reducible rfl) | (go_simp; rw [if_neg (by first | omega | (simp; omega))])
  try simp only [Act.put, List.setIfInBounds_toArray, List.set_cons_zero, List.set_cons_succ]
  try simp only [e1, e1', e2]
  refine q_nil ?_
  intro W_ hC_
  replace M := Aside.mk hC_
  clear hC_ z0 z1 z2 zl
  have z0 := Mine.at M.out 0 _ rfl
  have z1 := Mine.at M.out 1 _ rfl
  have z2 := Mine.at M.out 2 _ rfl
  have zl := Mine.lt M.out
  go_wp2
  go_ret
  exact ⟨rfl, M.out.low⟩
set_option maxHeartbeats 4000000 in
theorem pr_Ds (nt kd oc : ByteArray) (hcon : Lib.containsS [⟨#[]⟩, ⟨#[78]⟩, ⟨#[83]⟩, ⟨#[70]⟩, ⟨#[68]⟩, ⟨#[83, 70]⟩, ⟨#[83, 68]⟩, ⟨#[70, 68]⟩, ⟨#[83, 70, 68]⟩] nt = true) (e1 : (kd.toList == []) = false) (e1' : (kd.toList != []) = true) (e2 : (oc.toList == []) = false) (rty : Pm.typed kd.data.toList = true) (uu : ByteArray) (ru : (⟨(Txt.upper kd.data.toList).toArray⟩ : ByteArray) = uu) (e3 : (uu.toList == kd.toList) = true) (e4 : (uu.toList != kd.toList) = false) (hz : (256 : Int) < (oc.size : Int)) (w : World) (hk : kd.size ≤ 100000) : Calls Tryz.prog 31 #[.agg #[.string nt, .string kd, .string oc]] w fun e w' => e = .returned (.int .i64 3) ∧ Below w.heap.size w w' := by
  have M : Aside (Mine w [(w.heap.size, #[.string nt, .string kd, .string oc], 41)] (w.alloc (.cells #[.string nt, .string kd, .string oc] 41))) := ⟨(Mine.start w).alloc #[.string nt, .string kd, .string oc] 41⟩
  have HC := Lib.hid (show (#[.string ⟨#[]⟩, .string ⟨#[78]⟩, .string ⟨#[83]⟩, .string ⟨#[70]⟩, .string ⟨#[68]⟩, .string ⟨#[83, 70]⟩, .string ⟨#[83, 68]⟩, .string ⟨#[70, 68]⟩, .string ⟨#[83, 70, 68]⟩] : Array Value) = (([⟨#[]⟩, ⟨#[78]⟩, ⟨#[83]⟩, ⟨#[70]⟩, ⟨#[68]⟩, ⟨#[83, 70]⟩, ⟨#[83, 68]⟩, ⟨#[70, 68]⟩, ⟨#[83, 70, 68]⟩] : List ByteArray).map Value.string).toArray from rfl)
  have hty := fun W => refTyped_any kd hk W
  have hup := fun W => refUpper_any kd hk W
  go_enter Tryz.func31, Tryz.ntmps31
  go_wp2_with (first | (go_at_call 68; (with_reducible refine (amongR_fresh nt [⟨#[]⟩, ⟨#[78]⟩, ⟨#[83]⟩, ⟨#[70]⟩, ⟨#[68]⟩, ⟨#[83, 70]⟩, ⟨#[83, 68]⟩, ⟨#[70, 68]⟩, ⟨#[83, 70, 68]⟩] #[.string ⟨#[]⟩, .string ⟨#[78]⟩, .string ⟨#[83]⟩, .string ⟨#[70]⟩, .string ⟨#[68]⟩, .string ⟨#[83, 70]⟩, .string ⟨#[83, 68]⟩, .string ⟨#[70, 68]⟩, .string ⟨#[83, 70, 68]⟩] HC.out 9 (show List.length _ = _ from rfl) (by decide) _ hcon (w.alloc (.cells #[.string nt, .string kd, .string oc] 41)) (w.heap.size + 1) (by simp)).mono ?_); rintro e W1 ⟨rfl, hb⟩; replace M := Aside.mk (M.out.next hb); clear hb; have z0 := Mine.at M.out 0 _ rfl; have z1 := Mine.at M.out 1 _ rfl; have z2 := Mine.at M.out 2 _ rfl; have zl := Mine.lt M.out))
  rw [rty] at hty
  rw [ru] at hup
  clear hcon
  refine region_class (C := (fun w' => Mine w [(w.heap.size, #[.string nt, .string kd, .string oc], 41)] w')) (by kernel_rfl) (by kernel_rfl) (M.out.drewN 1) ?_
  refine q_run ?_ ?_ ?_ ?_
  · kernel_rfl
  rotate_left
  · intro w_ hw_
    have c0 := Mine.at hw_ 0 _ rfl
    have c1 := Mine.at hw_ 1 _ rfl
    have c2 := Mine.at hw_ 2 _ rfl
    have cl := Mine.lt hw_
    first | (go_simp; done) | (go_simp; with_reducible rfl) | (go_simp; rw [if_neg (by first | omega | (simp; omega))])
  try simp only [Act.put, List.setIfInBounds_toArray, List.set_cons_zero, List.set_cons_succ]
  try simp only [e1, e1', e2, e3, e4]
  refine q_run ?_ ?_ ?_ ?_
  · kernel_rfl
  rotate_left
  · intro w_ hw_
    have c0 := Mine.at hw_ 0 _ rfl
    have c1 := Mine.at hw_ 1 _ rfl
    have c2 := Mine.at hw_ 2 _ rfl
    have cl := Mine.lt hw_
    first | (go_simp; done) | (go_simp; with_reducible rfl) | (go_simp; rw [if_neg (by first | omega | (simp; omega))])
  try simp only [Act.put, List.setIfInBounds_toArray, List.set_cons_zero, List.set_cons_succ]
  try simp only [e1, e1', e2, e3, e4]
  refine q_run ?_ ?_ ?_ ?_
  · kernel_rfl
  rotate_left
  · intro w_ hw_
    have c0 := Mine.at hw_ 0 _ rfl
    have c1 := Mine.at hw_ 1 _ rfl
    have c2 := Mine.at hw_ 2 _ rfl
    have cl := Mine.lt hw_
    first | (go_simp; done) | (go_simp; with_reducible rfl) | (go_simp; rw [if_neg (by first | omega | (simp; omega))])
  try simp only [Act.put, List.setIfInBounds_toArray, List.set_cons_zero, List.set_cons_succ]
  try simp only [e1, e1', e2, e3, e4]
  refine q_run ?_ ?_ ?_ ?_
  · kernel_rfl
  rotate_left
  · intro w_ hw_
    have c0 := Mine.at hw_ 0 _ rfl
    have c1 := Mine.at hw_ 1 _ rfl
    have c2 := Mine.at hw_ 2 _ rfl
    have cl := Mine.lt hw_
    first | (go_simp; done) | (go_simp; with_reducible rfl) | (go_simp; rw [if_neg (by first | omega | (simp; omega))])
  try simp only [Act.put, List.setIfInBounds_toArray, List.set_cons_zero, List.set_cons_succ]
  try simp only [e1, e1', e2, e3, e4]
  first
   | (refine q_skip ?_ ?_
      · rfl)
   | (refine q_run ?_ ?_ ?_ ?_
      · kernel_rfl
      rotate_left
      · intro w_ hw_
        have c0 := Mine.at hw_ 0 _ rfl
        have c1 := Mine.at hw_ 1 _ rfl
        have c2 := Mine.at hw_ 2 _ rfl
        have cl := Mine.lt hw_
        first | (go_simp; done) | (go_simp; with_reducible rfl) | (go_simp; rw [if_neg (by first | omega | (simp; omega))]))
  try simp only [Act.put, List.setIfInBounds_toArray, List.set_cons_zero, List.set_cons_succ]
  try simp only [e1, e1', e2, e3, e4]
  first
   | (refine q_skip ?_ ?_
      · rfl)
   | (refine q_run ?_ ?_ ?_ ?_
      · kernel_rfl
      rotate_left
      · intro w_ hw_
        have c0 := Mine.at hw_ 0 _ rfl
        have c1 := Mine.at hw_ 1 _ rfl
        have c2 := Mine.at hw_ 2 _ rfl
        have cl := Mine.lt hw_
        first | (go_simp; done) | (go_simp; with_reducible rfl) | (go_simp; rw [if_neg (by first | omega | (simp; omega))]))
  try simp only [Act.put, List.setIfInBounds_toArray, List.set_cons_zero, List.set_cons_succ]
  try simp only [e1, e1', e2, e3, e4]
  first
   | (refine q_skip ?_ ?_
      · rfl)
   | (refine q_run ?_ ?_ ?_ ?_
      · kernel_rfl
      rotate_left
      · intro w_ hw_
        have c0 := Mine.at hw_ 0 _ rfl
        have c1 := Mine.at hw_ 1 _ rfl
        have c2 := Mine.at hw_ 2 _ rfl
        have cl := Mine.lt hw_
        first | (go_simp; done) | (go_simp; with_reducible rfl) | (go_simp; rw [if_neg (by first | omega | (simp; omega))]))
  try simp only [Act.put, List.setIfInBounds_toArray, List.set_cons_zero, List.set_cons_succ]
  try simp only [e1, e1', e2, e3, e4]
  refine q_run ?_ ?_ ?_ ?_
  · kernel_rfl
  rotate_left
  · intro w_ hw_
    have c0 := Mine.at hw_ 0 _ rfl
    have c1 := Mine.at hw_ 1 _ rfl
    have c2 := Mine.at hw_ 2 _ rfl
    have cl := Mine.lt hw_
    first | (go_simp; done) | (go_simp; with_reducible rfl) | (go_simp; rw [if_neg (by first | omega | (simp; omega))])
  try simp only [Act.put, List.setIfInBounds_toArray, List.set_cons_zero, List.set_cons_succ]
  try simp only [e1, e1', e2, e3, e4]
  refine q_run ?_ ?_ ?_ ?_
  · kernel_rfl
  rotate_left
  · intro w_ hw_
    have c0 := Mine.at hw_ 0 _ rfl
    have c1 := Mine.at hw_ 1 _ rfl
    have c2 := Mine.at hw_ 2 _ rfl
    have cl := Mine.lt hw_
    first | (go_simp; done) | (go_simp; with_reducible rfl) | (go_simp; rw [if_neg (by first | omega | (simp; omega))])
  try simp only [Act.put, List.setIfInBounds_toArray, List.set_cons_zero, List.set_cons_succ]
  try simp only [e1, e1', e2, e3, e4]
  first
   | (refine q_skip ?_ ?_
      · rfl)
   | (refine q_run ?_ ?_ ?_ ?_
      · kernel_rfl
      rotate_left
      · intro w_ hw_
        have c0 := Mine.at hw_ 0 _ rfl
        have c1 := Mine.at hw_ 1 _ rfl
        have c2 := Mine.at hw_ 2 _ rfl
        have cl := Mine.lt hw_
        first | (go_simp; done) | (go_simp; with_reducible rfl) | (go_simp; rw [if_neg (by first | omega | (simp; omega))]))
  try simp only [Act.put, List.setIfInBounds_toArray, List.set_cons_zero, List.set_cons_succ]
  try simp only [e1, e1', e2, e3, e4]
  first
   | (refine q_skip ?_ ?_
      · rfl)
   | (refine q_run ?_ ?_ ?_ ?_
      · kernel_rfl
      rotate_left
      · intro w_ hw_
        have c0 := Mine.at hw_ 0 _ rfl
        have c1 := Mine.at hw_ 1 _ rfl
        have c2 := Mine.at hw_ 2 _ rfl
        have cl := Mine.lt hw_
        first | (go_simp; done) | (go_simp; with_reducible rfl) | (go_simp; rw [if_neg (by first | omega | (simp; omega))]))
  try simp only [Act.put, List.setIfInBounds_toArray, List.set_cons_zero, List.set_cons_succ]
  try simp only [e1, e1', e2, e3, e4]
  first
   | (refine q_skip ?_ ?_
      · rfl)
   | (refine q_run ?_ ?_ ?_ ?_
      · kernel_rfl
      rotate_left
      · intro w_ hw_
        have c0 := Mine.at hw_ 0 _ rfl
        have c1 := Mine.at hw_ 1 _ rfl
        have c2 := Mine.at hw_ 2 _ rfl
        have cl := Mine.lt hw_
        first | (go_simp; done) | (go_simp; with_reducible rfl) | (go_simp; rw [if_neg (by first | omega | (simp; omega))]))
  try simp only [Act.put, List.setIfInBounds_toArray, List.set_cons_zero, List.set_cons_succ]
  try simp only [e1, e1', e2, e3, e4]
  first
   | (refine q_skip ?_ ?_
      · rfl)
   | (refine q_run ?_ ?_ ?_ ?_
      · kernel_rfl
      rotate_left
      · intro w_ hw_
        have c0 := Mine.at hw_ 0 _ rfl
        have c1 := Mine.at hw_ 1 _ rfl
        have c2 := Mine.at hw_ 2 _ rfl
        have cl := Mine.lt hw_
        first | (go_simp; done) | (go_simp; with_reducible rfl) | (go_simp; rw [if_neg (by first | omega | (simp; omega))]))
  try simp only [Act.put, List.setIfInBounds_toArray, List.set_cons_zero, List.set_cons_succ]
  try simp only [e1, e1', e2, e3, e4]
  first
   | (refine q_skip ?_ ?_
      · rfl)
   | (refine q_run ?_ ?_ ?_ ?_
      · kernel_rfl
      rotate_left
      · intro w_ hw_
        have c0 := Mine.at hw_ 0 _ rfl
        have c1 := Mine.at hw_ 1 _ rfl
        have c2 := Mine.at hw_ 2 _ rfl
        have cl := Mine.lt hw_
        first | (go_simp; done) | (go_simp; with_reducible rfl) | (go_simp; rw [if_neg (by first | omega | (simp; omega))]))
  try simp only [Act.put, List.setIfInBounds_toArray, List.set_cons_zero, List.set_cons_succ]
  try simp only [e1, e1', e2, e3, e4]
  first
   | (refine q_skip ?_ ?_
      · rfl)
   | (refine q_run ?_ ?_ ?_ ?_
      · kernel_rfl
      rotate_left
      · intro w_ hw_
        have c0 := Mine.at hw_ 0 _ rfl
        have c1 := Mine.at hw_ 1 _ rfl
        have c2 := Mine.at hw_ 2 _ rfl
        have cl := Mine.lt hw_
        first | (go_simp; done) | (go_simp; with_reducible rfl) | (go_simp; rw [if_neg (by first | omega | (simp; omega))]))
  try simp only [Act.put, List.setIfInBounds_toArray, List.set_cons_zero, List.set_cons_succ]
  try simp only [e1, e1', e2, e3, e4]
  first
   | (refine q_skip ?_ ?_
      · rfl)
   | (refine q_run ?_ ?_ ?_ ?_
      · kernel_rfl
      rotate_left
      · intro w_ hw_
        have c0 := Mine.at hw_ 0 _ rfl
        have c1 := Mine.at hw_ 1 _ rfl
        have c2 := Mine.at hw_ 2 _ rfl
        have cl := Mine.lt hw_
        first | (go_simp; done) | (go_simp; with_reducible rfl) | (go_simp; rw [if_neg (by first | omega | (simp; omega))]))
  try simp only [Act.put, List.setIfInBounds_toArray, List.set_cons_zero, List.set_cons_succ]
  try simp only [e1, e1', e2, e3, e4]
  first
   | (refine q_skip ?_ ?_
      · rfl)
   | (refine q_run ?_ ?_ ?_ ?_
      · kernel_rfl
      rotate_left
      · intro w_ hw_
        have c0 := Mine.at hw_ 0 _ rfl
        have c1 := Mine.at hw_ 1 _ rfl
        have c2 := Mine.at hw_ 2 _ rfl
        have cl := Mine.lt hw_
        first | (go_simp; done) | (go_simp; with_reducible rfl) | (go_simp; rw [if_neg (by first | omega | (simp; omega))]))
  try simp only [Act.put, List.setIfInBounds_toArray, List.set_cons_zero, List.set_cons_succ]
  try simp only [e1, e1', e2, e3, e4]
  refine q_run ?_ ?_ ?_ ?_
  · kernel_rfl
  rotate_left
  · intro w_ hw_
    have c0 := Mine.at hw_ 0 _ rfl
    have c1 := Mine.at hw_ 1 _ rfl
    have c2 := Mine.at hw_ 2 _ rfl
    have cl := Mine.lt hw_
    first | (go_simp; done) | (go_simp; with_reducible rfl) | (go_simp; rw [if_neg (by first | omega | (simp; omega))])
  try simp only [Act.put, List.setIfInBounds_toArray, List.set_cons_zero, List.set_cons_succ]
  try simp only [e1, e1', e2, e3, e4]
  refine q_run ?_ ?_ ?_ ?_
  · kernel_rfl
  rotate_left
  · intro w_ hw_
    have c0 := Mine.at hw_ 0 _ rfl
    have c1 := Mine.at hw_ 1 _ rfl
    have c2 := Mine.at hw_ 2 _ rfl
    have cl := Mine.lt hw_
    first | (go_simp; done) | (go_simp; with_reducible rfl) | (go_simp; rw [if_neg (by first | omega | (simp; omega))])
  try simp only [Act.put, List.setIfInBounds_toArray, List.set_cons_zero, List.set_cons_succ]
  try simp only [e1, e1', e2, e3, e4]
  first
   | (refine q_skip ?_ ?_
      · rfl)
   | (refine q_run ?_ ?_ ?_ ?_
      · kernel_rfl
      rotate_left
      · intro w_ hw_
        have c0 := Mine.at hw_ 0 _ rfl
        have c1 := Mine.at hw_ 1 _ rfl
        have c2 := Mine.at hw_ 2 _ rfl
        have cl := Mine.lt hw_
        first | (go_simp; done) | (go_simp; with_reducible rfl) | (go_simp; rw [if_neg (by first | omega | (simp; omega))]))
  try simp only [Act.put, List.setIfInBounds_toArray, List.set_cons_zero, List.set_cons_succ]
  try simp only [e1, e1', e2, e3, e4]
  first
   | (refine q_skip ?_ ?_
      · rfl)
   | (refine q_run ?_ ?_ ?_ ?_
      · kernel_rfl
      rotate_left
      · intro w_ hw_
        have c0 := Mine.at hw_ 0 _ rfl
        have c1 := Mine.at hw_ 1 _ rfl
        have c2 := Mine.at hw_ 2 _ rfl
        have cl := Mine.lt hw_
        first | (go_simp; done) | (go_simp; with_reducible rfl) | (go_simp; rw [if_neg (by first | omega | (simp; omega))]))
  try simp only [Act.put, List.setIfInBounds_toArray, List.set_cons_zero, List.set_cons_succ]
  try simp only [e1, e1', e2, e3, e4]
  first
   | (refine q_skip ?_ ?_
      · rfl)
   | (refine q_run ?_ ?_ ?_ ?_
      · kernel_rfl
      rotate_left
      · intro w_ hw_
        have c0 := Mine.at hw_ 0 _ rfl
        have c1 := Mine.at hw_ 1 _ rfl
        have c2 := Mine.at hw_ 2 _ rfl
        have cl := Mine.lt hw_
        first | (go_simp; done) | (go_simp; with_reducible rfl) | (go_simp; rw [if_neg (by first | omega | (simp; omega))]))
  try simp only [Act.put, List.setIfInBounds_toArray, List.set_cons_zero, List.set_cons_succ]
  try simp only [e1, e1', e2, e3, e4]
  first
   | (refine q_skip ?_ ?_
      · rfl)
   | (refine q_run ?_ ?_ ?_ ?_
      · kernel_rfl
      rotate_left
      · intro w_ hw_
        have c0 := Mine.at hw_ 0 _ rfl
        have c1 := Mine.at hw_ 1 _ rfl
        have c2 := Mine.at hw_ 2 _ rfl
        have cl := Mine.lt hw_
        first | (go_simp; done) | (go_simp; with_reducible rfl) | (go_simp; rw [if_neg (by first | omega | (simp; omega))]))
  try simp only [Act.put, List.setIfInBounds_toArray, List.set_cons_zero, List.set_cons_succ]
  try simp only [e1, e1', e2, e3, e4]
  first
   | (refine q_skip ?_ ?_
      · rfl)
   | (refine q_run ?_ ?_ ?_ ?_
      · kernel_rfl
      rotate_left
      · intro w_ hw_
        have c0 := Mine.at hw_ 0 _ rfl
        have c1 := Mine.at hw_ 1 _ rfl
        have c2 := Mine.at hw_ 2 _ rfl
        have cl := Mine.lt hw_
        first | (go_simp; done) | (go_simp; with_reducible rfl) | (go_simp; rw [if_neg (by first | omega | (simp; omega))]))
  try simp only [Act.put, List.setIfInBounds_toArray, List.set_cons_zero, List.set_cons_succ]
  try simp only [e1, e1', e2, e3, e4]
  first
   | (refine q_skip ?_ ?_
      · rfl)
   | (refine q_run ?_ ?_ ?_ ?_
      · kernel_rfl
      rotate_left
      · intro w_ hw_
        have c0 := Mine.at hw_ 0 _ rfl
        have c1 := Mine.at hw_ 1 _ rfl
        have c2 := Mine.at hw_ 2 _ rfl
        have cl := Mine.lt hw_
        first | (go_simp; done) | (go_simp; with_reducible rfl) | (go_simp; rw [if_neg (by first | omega | (simp; omega))]))
  try simp only [Act.put, List.setIfInBounds_toArray, List.set_cons_zero, List.set_cons_succ]
  try simp only [e1, e1', e2, e3, e4]
  first
   | (refine q_skip ?_ ?_
      · rfl)
   | (refine q_call ?_ (.bool true) ?_ ?_ ?_ ?_ ?_
      · kernel_rfl
      rotate_left 2
      · intro w_ hw_
        go_simp
        refine ⟨?_, ?_⟩ <;> with_reducible rfl
      · intro w_ hw_
        have c0 := Mine.at hw_ 0 _ rfl
        have c1 := Mine.at hw_ 1 _ rfl
        have c2 := Mine.at hw_ 2 _ rfl
        have cl := Mine.lt hw_
        exact (hty _).mono fun _ _ ⟨h1_, h2_⟩ => ⟨h1_, hw_.next h2_⟩)
  try simp only [Act.put, List.setIfInBounds_toArray, List.set_cons_zero, List.set_cons_succ]
  try simp only [e1, e1', e2, e3, e4]
  first
   | (refine q_skip ?_ ?_
      · rfl)
   | (refine q_run ?_ ?_ ?_ ?_
      · kernel_rfl
      rotate_left
      · intro w_ hw_
        have c0 := Mine.at hw_ 0 _ rfl
        have c1 := Mine.at hw_ 1 _ rfl
        have c2 := Mine.at hw_ 2 _ rfl
        have cl := Mine.lt hw_
        first | (go_simp; done) | (go_simp; with_reducible rfl) | (go_simp; rw [if_neg (by first | omega | (simp; omega))]))
  try simp only [Act.put, List.setIfInBounds_toArray, List.set_cons_zero, List.set_cons_succ]
  try simp only [e1, e1', e2, e3, e4]
  first
   | (refine q_skip ?_ ?_
      · rfl)
   | (refine q_run ?_ ?_ ?_ ?_
      · kernel_rfl
      rotate_left
      · intro w_ hw_
        have c0 := Mine.at hw_ 0 _ rfl
        have c1 := Mine.at hw_ 1 _ rfl
        have c2 := Mine.at hw_ 2 _ rfl
        have cl := Mine.lt hw_
        first | (go_simp; done) | (go_simp; with_reducible rfl) | (go_simp; rw [if_neg (by first | omega | (simp; omega))]))
  try simp only [Act.put, List.setIfInBounds_toArray, List.set_cons_zero, List.set_cons_succ]
  try simp only [e1, e1', e2, e3, e4]
  first
   | (refine q_skip ?_ ?_
      · rfl)
   | (refine q_run ?_ ?_ ?_ ?_
      · kernel_rfl
      rotate_left
      · intro w_ hw_
        have c0 := Mine.at hw_ 0 _ rfl
        have c1 := Mine.at hw_ 1 _ rfl
        have c2 := Mine.at hw_ 2 _ rfl
        have cl := Mine.lt hw_
        first | (go_simp; done) | (go_simp; with_reducible rfl) | (go_simp; rw [if_neg (by first | omega | (simp; omega))]))
  try simp only [Act.put, List.setIfInBounds_toArray, List.set_cons_zero, List.set_cons_succ]
  try simp only [e1, e1', e2, e3, e4]
  first
   | (refine q_skip ?_ ?_
      · rfl)
   | (refine q_run ?_ ?_ ?_ ?_
      · kernel_rfl
      rotate_left
      · intro w_ hw_
        have c0 := Mine.at hw_ 0 _ rfl
        have c1 := Mine.at hw_ 1 _ rfl
        have c2 := Mine.at hw_ 2 _ rfl
        have cl := Mine.lt hw_
        first | (go_simp; done) | (go_simp; with_reducible rfl) | (go_simp; rw [if_neg (by first | omega | (simp; omega))]))
  try simp only [Act.put, List.setIfInBounds_toArray, List.set_cons_zero, List.set_cons_succ]
  try simp only [e1, e1', e2, e3, e4]
  first
   | (refine q_skip ?_ ?_
      · rfl)
   | (refine q_call ?_ (.string uu) ?_ ?_ ?_ ?_ ?_
      · kernel_rfl
      rotate_left 2
      · intro w_ hw_
        go_simp
        refine ⟨?_, ?_⟩ <;> with_reducible rfl
      · intro w_ hw_
        have c0 := Mine.at hw_ 0 _ rfl
        have c1 := Mine.at hw_ 1 _ rfl
        have c2 := Mine.at hw_ 2 _ rfl
        have cl := Mine.lt hw_
        exact (hup _).mono fun _ _ ⟨h1_, h2_⟩ => ⟨h1_, hw_.next h2_⟩)
  try simp only [Act.put, List.setIfInBounds_toArray, List.set_cons_zero, List.set_cons_succ]
  try simp only [e1, e1', e2, e3, e4]
  first
   | (refine q_skip ?_ ?_
      · rfl)
   | (refine q_run ?_ ?_ ?_ ?_
      · kernel_rfl
      rotate_left
      · intro w_ hw_
        have c0 := Mine.at hw_ 0 _ rfl
        have c1 := Mine.at hw_ 1 _ rfl
        have c2 := Mine.at hw_ 2 _ rfl
        have cl := Mine.lt hw_
        first | (go_simp; done) | (go_simp; with_reducible rfl) | (go_simp; rw [if_neg (by first | omega | (simp; omega))]))
  try simp only [Act.put, List.setIfInBounds_toArray, List.set_cons_zero, List.set_cons_succ]
  try simp only [e1, e1', e2, e3, e4]
  first
   | (refine q_skip ?_ ?_
      · rfl)
   | (refine q_run ?_ ?_ ?_ ?_
      · kernel_rfl
      rotate_left
      · intro w_ hw_
        have c0 := Mine.at hw_ 0 _ rfl
        have c1 := Mine.at hw_ 1 _ rfl
        have c2 := Mine.at hw_ 2 _ rfl
        have cl := Mine.lt hw_
        first | (go_simp; done) | (go_simp; with_reducible rfl) | (go_simp; rw [if_neg (by first | omega | (simp; omega))]))
  try simp only [Act.put, List.setIfInBounds_toArray, List.set_cons_zero, List.set_cons_succ]
  try simp only [e1, e1', e2, e3, e4]
  first
   | (refine q_skip ?_ ?_
      · rfl)
   | (refine q_run ?_ ?_ ?_ ?_
      · kernel_rfl
      rotate_left
      · intro w_ hw_
        have c0 := Mine.at hw_ 0 _ rfl
        have c1 := Mine.at hw_ 1 _ rfl
        have c2 := Mine.at hw_ 2 _ rfl
        have cl := Mine.lt hw_
        first | (go_simp; done) | (go_simp; with_reducible rfl) | (go_simp; rw [if_neg (by first | omega | (simp; omega))]))
  try simp only [Act.put, List.setIfInBounds_toArray, List.set_cons_zero, List.set_cons_succ]
  try simp only [e1, e1', e2, e3, e4]
  first
   | (refine q_skip ?_ ?_
      · rfl)
   | (refine q_run ?_ ?_ ?_ ?_
      · kernel_rfl
      rotate_left
      · intro w_ hw_
        have c0 := Mine.at hw_ 0 _ rfl
        have c1 := Mine.at hw_ 1 _ rfl
        have c2 := Mine.at hw_ 2 _ rfl
        have cl := Mine.lt hw_
        first | (go_simp; done) | (go_simp; with_reducible rfl) | (go_simp; rw [if_neg (by first | omega | (simp; omega))]))
  try simp only [Act.put, List.setIfInBounds_toArray, List.set_cons_zero, List.set_cons_succ]
  try simp only [e1, e1', e2, e3, e4]
  first
   | (refine q_skip ?_ ?_
      · rfl)
   | (refine q_run ?_ ?_ ?_ ?_
      · kernel_rfl
      rotate_left
      · intro w_ hw_
        have c0 := Mine.at hw_ 0 _ rfl
        have c1 := Mine.at hw_ 1 _ rfl
        have c2 := Mine.at hw_ 2 _ rfl
        have cl := Mine.lt hw_
        first | (go_simp; done) | (go_simp; with_reducible rfl) | (go_simp; rw [if_neg (by first | omega | (simp; omega))]))
  try simp only [Act.put, List.setIfInBounds_toArray, List.set_cons_zero, List.set_cons_succ]
  try simp only [e1, e1', e2, e3, e4]
  refine q_run ?_ ?_ ?_ ?_
  · kernel_rfl
  rotate_left
  · intro w_ hw_
    have c0 := Mine.at hw_ 0 _ rfl
    have c1 := Mine.at hw_ 1 _ rfl
    have c2 := Mine.at hw_ 2 _ rfl
    have cl := Mine.lt hw_
    first | (go_simp; done) | (go_simp; with_reducible rfl) | (go_simp; rw [if_neg (by first | omega | (simp; omega))])
  try simp only [Act.put, List.setIfInBounds_toArray, List.set_cons_zero, List.set_cons_succ]
  try simp only [e1, e1', e2, e3, e4]
  refine q_nil ?_
  intro W_ hC_
  replace M := Aside.mk hC_
  clear hC_ z0 z1 z2 zl
  have z0 := Mine.at M.out 0 _ rfl
  have z1 := Mine.at M.out 1 _ rfl
  have z2 := Mine.at M.out 2 _ rfl
  have zl := Mine.lt M.out
  go_wp2
  go_ret
  exact ⟨rfl, M.out.low⟩
set_option maxHeartbeats 4000000 in
theorem pr_Co (nt kd oc : ByteArray) (hcon : Lib.containsS [⟨#[]⟩, ⟨#[78]⟩, ⟨#[83]⟩, ⟨#[70]⟩, ⟨#[68]⟩, ⟨#[83, 70]⟩, ⟨#[83, 68]⟩, ⟨#[70, 68]⟩, ⟨#[83, 70, 68]⟩] nt = true) (e1 : (kd.toList == []) = true) (e1' : (kd.toList != []) = false) (e2 : (oc.toList == []) = true) (hz : ¬ (256 : Int) < (oc.size : Int)) (w : World) (hk : kd.size ≤ 100000) : Calls Tryz.prog 31 #[.agg #[.string nt, .string kd, .string oc]] w fun e w' => e = .returned (.int .i64 0) ∧ Below w.heap.size w w' := by
  have M : Aside (Mine w [(w.heap.size, #[.string nt, .string kd, .string oc], 41)] (w.alloc (.cells #[.string nt, .string kd, .string oc] 41))) := ⟨(Mine.start w).alloc #[.string nt, .string kd, .string oc] 41⟩
  have HC := Lib.hid (show (#[.string ⟨#[]⟩, .string ⟨#[78]⟩, .string ⟨#[83]⟩, .string ⟨#[70]⟩, .string ⟨#[68]⟩, .string ⟨#[83, 70]⟩, .string ⟨#[83, 68]⟩, .string ⟨#[70, 68]⟩, .string ⟨#[83, 70, 68]⟩] : Array Value) = (([⟨#[]⟩, ⟨#[78]⟩, ⟨#[83]⟩, ⟨#[70]⟩, ⟨#[68]⟩, ⟨#[83, 70]⟩, ⟨#[83, 68]⟩, ⟨#[70, 68]⟩, ⟨#[83, 70, 68]⟩] : List ByteArray).map Value.string).toArray from rfl)
  have hty := fun W => refTyped_any kd hk W
  have hup := fun W => refUpper_any kd hk W
  go_enter Tryz.func31, Tryz.ntmps31
  go_wp2_with (first | (go_at_call 68; (with_reducible refine (amongR_fresh nt [⟨#[]⟩, ⟨#[78]⟩, ⟨#[83]⟩, ⟨#[70]⟩, ⟨#[68]⟩, ⟨#[83, 70]⟩, ⟨#[83, 68]⟩, ⟨#[70, 68]⟩, ⟨#[83, 70, 68]⟩] #[.string ⟨#[]⟩, .string ⟨#[78]⟩, .string ⟨#[83]⟩, .string ⟨#[70]⟩, .string ⟨#[68]⟩, .string ⟨#[83, 70]⟩, .string ⟨#[83, 68]⟩, .string ⟨#[70, 68]⟩, .string ⟨#[83, 70, 68]⟩] HC.out 9 (show List.length _ = _ from rfl) (by decide) _ hcon (w.alloc (.cells #[.string nt, .string kd, .string oc] 41)) (w.heap.size + 1) (by simp)).mono ?_); rintro e W1 ⟨rfl, hb⟩; replace M := Aside.mk (M.out.next hb); clear hb; have z0 := Mine.at M.out 0 _ rfl; have z1 := Mine.at M.out 1 _ rfl; have z2 := Mine.at M.out 2 _ rfl; have zl := Mine.lt M.out))
  clear hcon
  refine region_class (C := (fun w' => Mine w [(w.heap.size, #[.string nt, .string kd, .string oc], 41)] w')) (by kernel_rfl) (by kernel_rfl) (M.out.drewN 1) ?_
  refine q_run ?_ ?_ ?_ ?_
  · kernel_rfl
  rotate_left
  · intro w_ hw_
    have c0 := Mine.at hw_ 0 _ rfl
    have c1 := Mine.at hw_ 1 _ rfl
    have c2 := Mine.at hw_ 2 _ rfl
    have cl := Mine.lt hw_
    first | (go_simp; done) | (go_simp; with_reducible rfl) | (go_simp; rw [if_neg (by first | omega | (simp; omega))])
  try simp only [Act.put, List.setIfInBounds_toArray, List.set_cons_zero, List.set_cons_succ]
  try simp only [e1, e1', e2]
  refine q_run ?_ ?_ ?_ ?_
  · kernel_rfl
  rotate_left
  · intro w_ hw_
    have c0 := Mine.at hw_ 0 _ rfl
    have c1 := Mine.at hw_ 1 _ rfl
    have c2 := Mine.at hw_ 2 _ rfl
    have cl := Mine.lt hw_
    first | (go_simp; done) | (go_simp; with_reducible rfl) | (go_simp; rw [if_neg (by first | omega | (simp; omega))])
  try simp only [Act.put, List.setIfInBounds_toArray, List.set_cons_zero, List.set_cons_succ]
  try simp only [e1, e1', e2]
  refine q_run ?_ ?_ ?_ ?_
  · kernel_rfl
  rotate_left
  · intro w_ hw_
    have c0 := Mine.at hw_ 0 _ rfl
    have c1 := Mine.at hw_ 1 _ rfl
    have c2 := Mine.at hw_ 2 _ rfl
    have cl := Mine.lt hw_
    first | (go_simp; done) | (go_simp; with_reducible rfl) | (go_simp; rw [if_neg (by first | omega | (simp; omega))])
  try simp only [Act.put, List.setIfInBounds_toArray, List.set_cons_zero, List.set_cons_succ]
  try simp only [e1, e1', e2]
  refine q_run ?_ ?_ ?_ ?_
  · kernel_rfl
  rotate_left
  · intro w_ hw_
    have c0 := Mine.at hw_ 0 _ rfl
    have c1 := Mine.at hw_ 1 _ rfl
    have c2 := Mine.at hw_ 2 _ rfl
    have cl := Mine.lt hw_
    first | (go_simp; done) | (go_simp; with_reducible rfl) | (go_simp; rw [if_neg (by first | omega | (simp; omega))])
  try simp only [Act.put, List.setIfInBounds_toArray, List.set_cons_zero, List.set_cons_succ]
  try simp only [e1, e1', e2]
  first
   | (refine q_skip ?_ ?_
      · rfl)
   | (refine q_run ?_ ?_ ?_ ?_
      · kernel_rfl
      rotate_left
      · intro w_ hw_
        have c0 := Mine.at hw_ 0 _ rfl
        have c1 := Mine.at hw_ 1 _ rfl
        have c2 := Mine.at hw_ 2 _ rfl
        have cl := Mine.lt hw_
        first | (go_simp; done) | (go_simp; with_reducible rfl) | (go_simp; rw [if_neg (by first | omega | (simp; omega))]))
  try simp only [Act.put, List.setIfInBounds_toArray, List.set_cons_zero, List.set_cons_succ]
  try simp only [e1, e1', e2]
  first
   | (refine q_skip ?_ ?_
      · rfl)
   | (refine q_run ?_ ?_ ?_ ?_
      · kernel_rfl
      rotate_left
      · intro w_ hw_
        have c0 := Mine.at hw_ 0 _ rfl
        have c1 := Mine.at hw_ 1 _ rfl
        have c2 := Mine.at hw_ 2 _ rfl
        have cl := Mine.lt hw_
        first | (go_simp; done) | (go_simp; with_reducible rfl) | (go_simp; rw [if_neg (by first | omega | (simp; omega))]))
  try simp only [Act.put, List.setIfInBounds_toArray, List.set_cons_zero, List.set_cons_succ]
  try simp only [e1, e1', e2]
  first
   | (refine q_skip ?_ ?_
      · rfl)
   | (refine q_run ?_ ?_ ?_ ?_
      · kernel_rfl
      rotate_left
      · intro w_ hw_
        have c0 := Mine.at hw_ 0 _ rfl
        have c1 := Mine.at hw_ 1 _ rfl
        have c2 := Mine.at hw_ 2 _ rfl
        have cl := Mine.lt hw_
        first | (go_simp; done) | (go_simp; with_reducible rfl) | (go_simp; rw [if_neg (by first | omega | (simp; omega))]))
  try simp only [Act.put, List.setIfInBounds_toArray, List.set_cons_zero, List.set_cons_succ]
  try simp only [e1, e1', e2]
  refine q_run ?_ ?_ ?_ ?_
  · kernel_rfl
  rotate_left
  · intro w_ hw_
    have c0 := Mine.at hw_ 0 _ rfl
    have c1 := Mine.at hw_ 1 _ rfl
    have c2 := Mine.at hw_ 2 _ rfl
    have cl := Mine.lt hw_
    first | (go_simp; done) | (go_simp; with_reducible rfl) | (go_simp; rw [if_neg (by first | omega | (simp; omega))])
  try simp only [Act.put, List.setIfInBounds_toArray, List.set_cons_zero, List.set_cons_succ]
  try simp only [e1, e1', e2]
  refine q_run ?_ ?_ ?_ ?_
  · kernel_rfl
  rotate_left
  · intro w_ hw_
    have c0 := Mine.at hw_ 0 _ rfl
    have c1 := Mine.at hw_ 1 _ rfl
    have c2 := Mine.at hw_ 2 _ rfl
    have cl := Mine.lt hw_
    first | (go_simp; done) | (go_simp; with_reducible rfl) | (go_simp; rw [if_neg (by first | omega | (simp; omega))])
  try simp only [Act.put, List.setIfInBounds_toArray, List.set_cons_zero, List.set_cons_succ]
  try simp only [e1, e1', e2]
  first
   | (refine q_skip ?_ ?_
      · rfl)
   | (refine q_run ?_ ?_ ?_ ?_
      · kernel_rfl
      rotate_left
      · intro w_ hw_
        have c0 := Mine.at hw_ 0 _ rfl
        have c1 := Mine.at hw_ 1 _ rfl
        have c2 := Mine.at hw_ 2 _ rfl
        have cl := Mine.lt hw_
        first | (go_simp; done) | (go_simp; with_reducible rfl) | (go_simp; rw [if_neg (by first | omega | (simp; omega))]))
  try simp only [Act.put, List.setIfInBounds_toArray, List.set_cons_zero, List.set_cons_succ]
  try simp only [e1, e1', e2]
  first
   | (refine q_skip ?_ ?_
      · rfl)
   | (refine q_run ?_ ?_ ?_ ?_
      · kernel_rfl
      rotate_left
      · intro w_ hw_
        have c0 := Mine.at hw_ 0 _ rfl
        have c1 := Mine.at hw_ 1 _ rfl
        have c2 := Mine.at hw_ 2 _ rfl
        have cl := Mine.lt hw_
        first | (go_simp; done) | (go_simp; with_reducible rfl) | (go_simp; rw [if_neg (by first | omega | (simp; omega))]))
  try simp only [Act.put, List.setIfInBounds_toArray, List.set_cons_zero, List.set_cons_succ]
  try simp only [e1, e1', e2]
  first
   | (refine q_skip ?_ ?_
      · rfl)
   | (refine q_run ?_ ?_ ?_ ?_
      · kernel_rfl
      rotate_left
      · intro w_ hw_
        have c0 := Mine.at hw_ 0 _ rfl
        have c1 := Mine.at hw_ 1 _ rfl
        have c2 := Mine.at hw_ 2 _ rfl
        have cl := Mine.lt hw_
        first | (go_simp; done) | (go_simp; with_reducible rfl) | (go_simp; rw [if_neg (by first | omega | (simp; omega))]))
  try simp only [Act.put, List.setIfInBounds_toArray, List.set_cons_zero, List.set_cons_succ]
  try simp only [e1, e1', e2]
  first
   | (refine q_skip ?_ ?_
      · rfl)
   | (refine q_run ?_ ?_ ?_ ?_
      · kernel_rfl
      rotate_left
      · intro w_ hw_
        have c0 := Mine.at hw_ 0 _ rfl
        have c1 := Mine.at hw_ 1 _ rfl
        have c2 := Mine.at hw_ 2 _ rfl
        have cl := Mine.lt hw_
        first | (go_simp; done) | (go_simp; with_reducible rfl) | (go_simp; rw [if_neg (by first | omega | (simp; omega))]))
  try simp only [Act.put, List.setIfInBounds_toArray, List.set_cons_zero, List.set_cons_succ]
  try simp only [e1, e1', e2]
  first
   | (refine q_skip ?_ ?_
      · rfl)
   | (refine q_run ?_ ?_ ?_ ?_
      · kernel_rfl
      rotate_left
      · intro w_ hw_
        have c0 := Mine.at hw_ 0 _ rfl
        have c1 := Mine.at hw_ 1 _ rfl
        have c2 := Mine.at hw_ 2 _ rfl
        have cl := Mine.lt hw_
        first | (go_simp; done) | (go_simp; with_reducible rfl) | (go_simp; rw [if_neg (by first | omega | (simp; omega))]))
  try simp only [Act.put, List.setIfInBounds_toArray, List.set_cons_zero, List.set_cons_succ]
  try simp only [e1, e1', e2]
  first
   | (refine q_skip ?_ ?_
      · rfl)
   | (refine q_run ?_ ?_ ?_ ?_
      · kernel_rfl
      rotate_left
      · intro w_ hw_
        have c0 := Mine.at hw_ 0 _ rfl
        have c1 := Mine.at hw_ 1 _ rfl
        have c2 := Mine.at hw_ 2 _ rfl
        have cl := Mine.lt hw_
        first | (go_simp; done) | (go_simp; with_reducible rfl) | (go_simp; rw [if_neg (by first | omega | (simp; omega))]))
  try simp only [Act.put, List.setIfInBounds_toArray, List.set_cons_zero, List.set_cons_succ]
  try simp only [e1, e1', e2]
  first
   | (refine q_skip ?_ ?_
      · rfl)
   | (refine q_run ?_ ?_ ?_ ?_
      · kernel_rfl
      rotate_left
      · intro w_ hw_
        have c0 := Mine.at hw_ 0 _ rfl
        have c1 := Mine.at hw_ 1 _ rfl
        have c2 := Mine.at hw_ 2 _ rfl
        have cl := Mine.lt hw_
        first | (go_simp; done) | (go_simp; with_reducible rfl) | (go_simp; rw [if_neg (by first | omega | (simp; omega))]))
  try simp only [Act.put, List.setIfInBounds_toArray, List.set_cons_zero, List.set_cons_succ]
  try simp only [e1, e1', e2]
  first
   | (refine q_skip ?_ ?_
      · rfl)
   | (refine q_run ?_ ?_ ?_ ?_
      · kernel_rfl
      rotate_left
      · intro w_ hw_
        have c0 := Mine.at hw_ 0 _ rfl
        have c1 := Mine.at hw_ 1 _ rfl
        have c2 := Mine.at hw_ 2 _ rfl
        have cl := Mine.lt hw_
        first | (go_simp; done) | (go_simp; with_reducible rfl) | (go_simp; rw [if_neg (by first | omega | (simp; omega))]))
  try simp only [Act.put, List.setIfInBounds_toArray, List.set_cons_zero, List.set_cons_succ]
  try simp only [e1, e1', e2]
  refine q_run ?_ ?_ ?_ ?_
  · kernel_rfl
  rotate_left
  · intro w_ hw_
    have c0 := Mine.at hw_ 0 _ rfl
    have c1 := Mine.at hw_ 1 _ rfl
    have c2 := Mine.at hw_ 2 _ rfl
    have cl := Mine.lt hw_
    first | (go_simp; done) | (go_simp; with_reducible rfl) | (go_simp; rw [if_neg (by first | omega | (simp; omega))])
  try simp only [Act.put, List.setIfInBounds_toArray, List.set_cons_zero, List.set_cons_succ]
  try simp only [e1, e1', e2]
  refine q_run ?_ ?_ ?_ ?_
  · kernel_rfl
  rotate_left
  · intro w_ hw_
    have c0 := Mine.at hw_ 0 _ rfl
    have c1 := Mine.at hw_ 1 _ rfl
    have c2 := Mine.at hw_ 2 _ rfl
    have cl := Mine.lt hw_
    first | (go_simp; done) | (go_simp; with_reducible rfl) | (go_simp; rw [if_neg (by first | omega | (simp; omega))])
  try simp only [Act.put, List.setIfInBounds_toArray, List.set_cons_zero, List.set_cons_succ]
  try simp only [e1, e1', e2]
  first
   | (refine q_skip ?_ ?_
      · rfl)
   | (refine q_run ?_ ?_ ?_ ?_
      · kernel_rfl
      rotate_left
      · intro w_ hw_
        have c0 := Mine.at hw_ 0 _ rfl
        have c1 := Mine.at hw_ 1 _ rfl
        have c2 := Mine.at hw_ 2 _ rfl
        have cl := Mine.lt hw_
        first | (go_simp; done) | (go_simp; with_reducible rfl) | (go_simp; rw [if_neg (by first | omega | (simp; omega))]))
  try simp only [Act.put, List.setIfInBounds_toArray, List.set_cons_zero, List.set_cons_succ]
  try simp only [e1, e1', e2]
  first
   | (refine q_skip ?_ ?_
      · rfl)
   | (refine q_run ?_ ?_ ?_ ?_
      · kernel_rfl
      rotate_left
      · intro w_ hw_
        have c0 := Mine.at hw_ 0 _ rfl
        have c1 := Mine.at hw_ 1 _ rfl
        have c2 := Mine.at hw_ 2 _ rfl
        have cl := Mine.lt hw_
        first | (go_simp; done) | (go_simp; with_reducible rfl) | (go_simp; rw [if_neg (by first | omega | (simp; omega))]))
  try simp only [Act.put, List.setIfInBounds_toArray, List.set_cons_zero, List.set_cons_succ]
  try simp only [e1, e1', e2]
  first
   | (refine q_skip ?_ ?_
      · rfl)
   | (refine q_run ?_ ?_ ?_ ?_
      · kernel_rfl
      rotate_left
      · intro w_ hw_
        have c0 := Mine.at hw_ 0 _ rfl
        have c1 := Mine.at hw_ 1 _ rfl
        have c2 := Mine.at hw_ 2 _ rfl
        have cl := Mine.lt hw_
        first | (go_simp; done) | (go_simp; with_reducible rfl) | (go_simp; rw [if_neg (by first | omega | (simp; omega))]))
  try simp only [Act.put, List.setIfInBounds_toArray, List.set_cons_zero, List.set_cons_succ]
  try simp only [e1, e1', e2]
  first
   | (refine q_skip ?_ ?_
      · rfl)
   | (refine q_run ?_ ?_ ?_ ?_
      · kernel_rfl
      rotate_left
      · intro w_ hw_
        have c0 := Mine.at hw_ 0 _ rfl
        have c1 := Mine.at hw_ 1 _ rfl
        have c2 := Mine.at hw_ 2 _ rfl
        have cl := Mine.lt hw_
        first | (go_simp; done) | (go_simp; with_reducible rfl) | (go_simp; rw [if_neg (by first | omega | (simp; omega))]))
  try simp only [Act.put, List.setIfInBounds_toArray, List.set_cons_zero, List.set_cons_succ]
  try simp only [e1, e1', e2]
  first
   | (refine q_skip ?_ ?_
      · rfl)
   | (refine q_run ?_ ?_ ?_ ?_
      · kernel_rfl
      rotate_left
      · intro w_ hw_
        have c0 := Mine.at hw_ 0 _ rfl
        have c1 := Mine.at hw_ 1 _ rfl
        have c2 := Mine.at hw_ 2 _ rfl
        have cl := Mine.lt hw_
        first | (go_simp; done) | (go_simp; with_reducible rfl) | (go_simp; rw [if_neg (by first | omega | (simp; omega))]))
  try simp only [Act.put, List.setIfInBounds_toArray, List.set_cons_zero, List.set_cons_succ]
  try simp only [e1, e1', e2]
  first
   | (refine q_skip ?_ ?_
      · rfl)
   | (refine q_run ?_ ?_ ?_ ?_
      · kernel_rfl
      rotate_left
      · intro w_ hw_
        have c0 := Mine.at hw_ 0 _ rfl
        have c1 := Mine.at hw_ 1 _ rfl
        have c2 := Mine.at hw_ 2 _ rfl
        have cl := Mine.lt hw_
        first | (go_simp; done) | (go_simp; with_reducible rfl) | (go_simp; rw [if_neg (by first | omega | (simp; omega))]))
  try simp only [Act.put, List.setIfInBounds_toArray, List.set_cons_zero, List.set_cons_succ]
  try simp only [e1, e1', e2]
  first
   | (refine q_skip ?_ ?_
      · rfl)
   | (refine q_call ?_ (.bool true) ?_ ?_ ?_ ?_ ?_
      · kernel_rfl
      rotate_left 2
      · intro w_ hw_
        go_simp
        refine ⟨?_, ?_⟩ <;> with_reducible rfl
      · intro w_ hw_
        have c0 := Mine.at hw_ 0 _ rfl
        have c1 := Mine.at hw_ 1 _ rfl
        have c2 := Mine.at hw_ 2 _ rfl
        have cl := Mine.lt hw_
        exact (hty _).mono fun _ _ ⟨h1_, h2_⟩ => ⟨h1_, hw_.next h2_⟩)
  try simp only [Act.put, List.setIfInBounds_toArray, List.set_cons_zero, List.set_cons_succ]
  try simp only [e1, e1', e2]
  first
   | (refine q_skip ?_ ?_
      · rfl)
   | (refine q_run ?_ ?_ ?_ ?_
      · kernel_rfl
      rotate_left
      · intro w_ hw_
        have c0 := Mine.at hw_ 0 _ rfl
        have c1 := Mine.at hw_ 1 _ rfl
        have c2 := Mine.at hw_ 2 _ rfl
        have cl := Mine.lt hw_
        first | (go_simp; done) | (go_simp; with_reducible rfl) | (go_simp; rw [if_neg (by first | omega | (simp; omega))]))
  try simp only [Act.put, List.setIfInBounds_toArray, List.set_cons_zero, List.set_cons_succ]
  try simp only [e1, e1', e2]
  first
   | (refine q_skip ?_ ?_
      · rfl)
   | (refine q_run ?_ ?_ ?_ ?_
      · kernel_rfl
      rotate_left
      · intro w_ hw_
        have c0 := Mine.at hw_ 0 _ rfl
        have c1 := Mine.at hw_ 1 _ rfl
        have c2 := Mine.at hw_ 2 _ rfl
        have cl := Mine.lt hw_
        first | (go_simp; done) | (go_simp; with_reducible rfl) | (go_simp; rw [if_neg (by first | omega | (simp; omega))]))
  try simp only [Act.put, List.setIfInBounds_toArray, List.set_cons_zero, List.set_cons_succ]
  try simp only [e1, e1', e2]
  first
   | (refine q_skip ?_ ?_
      · rfl)
   | (refine q_run ?_ ?_ ?_ ?_
      · kernel_rfl
      rotate_left
      · intro w_ hw_
        have c0 := Mine.at hw_ 0 _ rfl
        have c1 := Mine.at hw_ 1 _ rfl
        have c2 := Mine.at hw_ 2 _ rfl
        have cl := Mine.lt hw_
        first | (go_simp; done) | (go_simp; with_reducible rfl) | (go_simp; rw [if_neg (by first | omega | (simp; omega))]))
  try simp only [Act.put, List.setIfInBounds_toArray, List.set_cons_zero, List.set_cons_succ]
  try simp only [e1, e1', e2]
  first
   | (refine q_skip ?_ ?_
      · rfl)
   | (refine q_run ?_ ?_ ?_ ?_
      · kernel_rfl
      rotate_left
      · intro w_ hw_
        have c0 := Mine.at hw_ 0 _ rfl
        have c1 := Mine.at hw_ 1 _ rfl
        have c2 := Mine.at hw_ 2 _ rfl
        have cl := Mine.lt hw_
        first | (go_simp; done) | (go_simp; with_reducible rfl) | (go_simp; rw [if_neg (by first | omega | (simp; omega))]))
  try simp only [Act.put, List.setIfInBounds_toArray, List.set_cons_zero, List.set_cons_succ]
  try simp only [e1, e1', e2]
  first
   | (refine q_skip ?_ ?_
      · rfl)
   | (refine q_call ?_ (.string (⟨(Txt.upper kd.data.toList).toArray⟩ : ByteArray)) ?_ ?_ ?_ ?_ ?_
      · kernel_rfl
      rotate_left 2
      · intro w_ hw_
        go_simp
        refine ⟨?_, ?_⟩ <;> with_reducible rfl
      · intro w_ hw_
        have c0 := Mine.at hw_ 0 _ rfl
        have c1 := Mine.at hw_ 1 _ rfl
        have c2 := Mine.at hw_ 2 _ rfl
        have cl := Mine.lt hw_
        exact (hup _).mono fun _ _ ⟨h1_, h2_⟩ => ⟨h1_, hw_.next h2_⟩)
  try simp only [Act.put, List.setIfInBounds_toArray, List.set_cons_zero, List.set_cons_succ]
  try simp only [e1, e1', e2]
  first
   | (refine q_skip ?_ ?_
      · rfl)
   | (refine q_run ?_ ?_ ?_ ?_
      · kernel_rfl
      rotate_left
      · intro w_ hw_
        have c0 := Mine.at hw_ 0 _ rfl
        have c1 := Mine.at hw_ 1 _ rfl
        have c2 := Mine.at hw_ 2 _ rfl
        have cl := Mine.lt hw_
        first | (go_simp; done) | (go_simp; with_reducible rfl) | (go_simp; rw [if_neg (by first | omega | (simp; omega))]))
  try simp only [Act.put, List.setIfInBounds_toArray, List.set_cons_zero, List.set_cons_succ]
  try simp only [e1, e1', e2]
  first
   | (refine q_skip ?_ ?_
      · rfl)
   | (refine q_run ?_ ?_ ?_ ?_
      · kernel_rfl
      rotate_left
      · intro w_ hw_
        have c0 := Mine.at hw_ 0 _ rfl
        have c1 := Mine.at hw_ 1 _ rfl
        have c2 := Mine.at hw_ 2 _ rfl
        have cl := Mine.lt hw_
        first | (go_simp; done) | (go_simp; with_reducible rfl) | (go_simp; rw [if_neg (by first | omega | (simp; omega))]))
  try simp only [Act.put, List.setIfInBounds_toArray, List.set_cons_zero, List.set_cons_succ]
  try simp only [e1, e1', e2]
  first
   | (refine q_skip ?_ ?_
      · rfl)
   | (refine q_run ?_ ?_ ?_ ?_
      · kernel_rfl
      rotate_left
      · intro w_ hw_
        have c0 := Mine.at hw_ 0 _ rfl
        have c1 := Mine.at hw_ 1 _ rfl
        have c2 := Mine.at hw_ 2 _ rfl
        have cl := Mine.lt hw_
        first | (go_simp; done) | (go_simp; with_reducible rfl) | (go_simp; rw [if_neg (by first | omega | (simp; omega))]))
  try simp only [Act.put, List.setIfInBounds_toArray, List.set_cons_zero, List.set_cons_succ]
  try simp only [e1, e1', e2]
  first
   | (refine q_skip ?_ ?_
      · rfl)
   | (refine q_run ?_ ?_ ?_ ?_
      · kernel_rfl
      rotate_left
      · intro w_ hw_
        have c0 := Mine.at hw_ 0 _ rfl
        have c1 := Mine.at hw_ 1 _ rfl
        have c2 := Mine.at hw_ 2 _ rfl
        have cl := Mine.lt hw_
        first | (go_simp; done) | (go_simp; with_reducible rfl) | (go_simp; rw [if_neg (by first | omega | (simp; omega))]))
  try simp only [Act.put, List.setIfInBounds_toArray, List.set_cons_zero, List.set_cons_succ]
  try simp only [e1, e1', e2]
  first
   | (refine q_skip ?_ ?_
      · rfl)
   | (refine q_run ?_ ?_ ?_ ?_
      · kernel_rfl
      rotate_left
      · intro w_ hw_
        have c0 := Mine.at hw_ 0 _ rfl
        have c1 := Mine.at hw_ 1 _ rfl
        have c2 := Mine.at hw_ 2 _ rfl
        have cl := Mine.lt hw_
        first | (go_simp; done) | (go_simp; with_reducible rfl) | (go_simp; rw [if_neg (by first | omega | (simp; omega))]))
  try simp only [Act.put, List.setIfInBounds_toArray, List.set_cons_zero, List.set_cons_succ]
  try simp only [e1, e1', e2]
  refine q_run ?_ ?_ ?_ ?_
  · kernel_rfl
  rotate_left
  · intro w_ hw_
    have c0 := Mine.at hw_ 0 _ rfl
    have c1 := Mine.at hw_ 1 _ rfl
    have c2 := Mine.at hw_ 2 _ rfl
    have cl := Mine.lt hw_
    first | (go_simp; done) | (go_simp; with_reducible rfl) | (go_simp; rw [if_neg (by first | omega | (simp; omega))])
  try simp only [Act.put, List.setIfInBounds_toArray, List.set_cons_zero, List.set_cons_succ]
  try simp only [e1, e1', e2]
  refine q_nil ?_
  intro W_ hC_
  replace M := Aside.mk hC_
  clear hC_ z0 z1 z2 zl
  have z0 := Mine.at M.out 0 _ rfl
  have z1 := Mine.at M.out 1 _ rfl
  have z2 := Mine.at M.out 2 _ rfl
  have zl := Mine.lt M.out
  go_wp2
  go_ret
  exact ⟨rfl, M.out.low⟩
set_option maxHeartbeats 4000000 in
theorem pr_Do (nt kd oc : ByteArray) (hcon : Lib.containsS [⟨#[]⟩, ⟨#[78]⟩, ⟨#[83]⟩, ⟨#[70]⟩, ⟨#[68]⟩, ⟨#[83, 70]⟩, ⟨#[83, 68]⟩, ⟨#[70, 68]⟩, ⟨#[83, 70, 68]⟩] nt = true) (e1 : (kd.toList == []) = false) (e1' : (kd.toList != []) = true) (e2 : (oc.toList == []) = false) (rty : Pm.typed kd.data.toList = true) (uu : ByteArray) (ru : (⟨(Txt.upper kd.data.toList).toArray⟩ : ByteArray) = uu) (e3 : (uu.toList == kd.toList) = true) (e4 : (uu.toList != kd.toList) = false) (hz : ¬ (256 : Int) < (oc.size : Int)) (w : World) (hk : kd.size ≤ 100000) : Calls Tryz.prog 31 #[.agg #[.string nt, .string kd, .string oc]] w fun e w' => e = .returned (.int .i64 0) ∧ Below w.heap.size w w' := by
  have M : Aside (Mine w [(w.heap.size, #[.string nt, .string kd, .string oc], 41)] (w.alloc (.cells #[.string nt, .string kd, .string oc] 41))) := ⟨(Mine.start w).alloc #[.string nt, .string kd, .string oc] 41⟩
  have HC := Lib.hid (show (#[.string ⟨#[]⟩, .string ⟨#[78]⟩, .string ⟨#[83]⟩, .string ⟨#[70]⟩, .string ⟨#[68]⟩, .string ⟨#[83, 70]⟩, .string ⟨#[83, 68]⟩, .string ⟨#[70, 68]⟩, .string ⟨#[83, 70, 68]⟩] : Array Value) = (([⟨#[]⟩, ⟨#[78]⟩, ⟨#[83]⟩, ⟨#[70]⟩, ⟨#[68]⟩, ⟨#[83, 70]⟩, ⟨#[83, 68]⟩, ⟨#[70, 68]⟩, ⟨#[83, 70, 68]⟩] : List ByteArray).map Value.string).toArray from rfl)
  have hty := fun W => refTyped_any kd hk W
  have hup := fun W => refUpper_any kd hk W
  go_enter Tryz.func31, Tryz.ntmps31
  go_wp2_with (first | (go_at_call 68; (with_reducible refine (amongR_fresh nt [⟨#[]⟩, ⟨#[78]⟩, ⟨#[83]⟩, ⟨#[70]⟩, ⟨#[68]⟩, ⟨#[83, 70]⟩, ⟨#[83, 68]⟩, ⟨#[70, 68]⟩, ⟨#[83, 70, 68]⟩] #[.string ⟨#[]⟩, .string ⟨#[78]⟩, .string ⟨#[83]⟩, .string ⟨#[70]⟩, .string ⟨#[68]⟩, .string ⟨#[83, 70]⟩, .string ⟨#[83, 68]⟩, .string ⟨#[70, 68]⟩, .string ⟨#[83, 70, 68]⟩] HC.out 9 (show List.length _ = _ from rfl) (by decide) _ hcon (w.alloc (.cells #[.string nt, .string kd, .string oc] 41)) (w.heap.size + 1) (by simp)).mono ?_); rintro e W1 ⟨rfl, hb⟩; replace M := Aside.mk (M.out.next hb); clear hb; have z0 := Mine.at M.out 0 _ rfl; have z1 := Mine.at M.out 1 _ rfl; have z2 := Mine.at M.out 2 _ rfl; have zl := Mine.lt M.out))
  rw [rty] at hty
  rw [ru] at hup
  clear hcon
  refine region_class (C := (fun w' => Mine w [(w.heap.size, #[.string nt, .string kd, .string oc], 41)] w')) (by kernel_rfl) (by kernel_rfl) (M.out.drewN 1) ?_
  refine q_run ?_ ?_ ?_ ?_
  · kernel_rfl
  rotate_left
  · intro w_ hw_
    have c0 := Mine.at hw_ 0 _ rfl
    have c1 := Mine.at hw_ 1 _ rfl
    have c2 := Mine.at hw_ 2 _ rfl
    have cl := Mine.lt hw_
    first | (go_simp; done) | (go_simp; with_reducible rfl) | (go_simp; rw [if_neg (by first | omega | (simp; omega))])
  try simp only [Act.put, List.setIfInBounds_toArray, List.set_cons_zero, List.set_cons_succ]
  try simp only [e1, e1', e2, e3, e4]
  refine q_run ?_ ?_ ?_ ?_
  · kernel_rfl
  rotate_left
  · intro w_ hw_
    have c0 := Mine.at hw_ 0 _ rfl
    have c1 := Mine.at hw_ 1 _ rfl
    have c2 := Mine.at hw_ 2 _ rfl
    have cl := Mine.lt hw_
    first | (go_simp; done) | (go_simp; with_reducible rfl) | (go_simp; rw [if_neg (by first | omega | (simp; omega))])
  try simp only [Act.put, List.setIfInBounds_toArray, List.set_cons_zero, List.set_cons_succ]
  try simp only [e1, e1', e2, e3, e4]
  refine q_run ?_ ?_ ?_ ?_
  · kernel_rfl
  rotate_left
  · intro w_ hw_
    have c0 := Mine.at hw_ 0 _ rfl
    have c1 := Mine.at hw_ 1 _ rfl
    have c2 := Mine.at hw_ 2 _ rfl
    have cl := Mine.lt hw_
    first | (go_simp; done) | (go_simp; with_reducible rfl) | (go_simp; rw [if_neg (by first | omega | (simp; omega))])
  try simp only [Act.put, List.setIfInBounds_toArray, List.set_cons_zero, List.set_cons_succ]
  try simp only [e1, e1', e2, e3, e4]
  refine q_run ?_ ?_ ?_ ?_
  · kernel_rfl
  rotate_left
  · intro w_ hw_
    have c0 := Mine.at hw_ 0 _ rfl
    have c1 := Mine.at hw_ 1 _ rfl
    have c2 := Mine.at hw_ 2 _ rfl
    have cl := Mine.lt hw_
    first | (go_simp; done) | (go_simp; with_reducible rfl) | (go_simp; rw [if_neg (by first | omega | (simp; omega))])
  try simp only [Act.put, List.setIfInBounds_toArray, List.set_cons_zero, List.set_cons_succ]
  try simp only [e1, e1', e2, e3, e4]
  first
   | (refine q_skip ?_ ?_
      · rfl)
   | (refine q_run ?_ ?_ ?_ ?_
      · kernel_rfl
      rotate_left
      · intro w_ hw_
        have c0 := Mine.at hw_ 0 _ rfl
        have c1 := Mine.at hw_ 1 _ rfl
        have c2 := Mine.at hw_ 2 _ rfl
        have cl := Mine.lt hw_
        first | (go_simp; done) | (go_simp; with_reducible rfl) | (go_simp; rw [if_neg (by first | omega | (simp; omega))]))
  try simp only [Act.put, List.setIfInBounds_toArray, List.set_cons_zero, List.set_cons_succ]
  try simp only [e1, e1', e2, e3, e4]
  first
   | (refine q_skip ?_ ?_
      · rfl)
   | (refine q_run ?_ ?_ ?_ ?_
      · kernel_rfl
      rotate_left
      · intro w_ hw_
        have c0 := Mine.at hw_ 0 _ rfl
        have c1 := Mine.at hw_ 1 _ rfl
        have c2 := Mine.at hw_ 2 _ rfl
        have cl := Mine.lt hw_
        first | (go_simp; done) | (go_simp; with_reducible rfl) | (go_simp; rw [if_neg (by first | omega | (simp; omega))]))
  try simp only [Act.put, List.setIfInBounds_toArray, List.set_cons_zero, List.set_cons_succ]
  try simp only [e1, e1', e2, e3, e4]
  first
   | (refine q_skip ?_ ?_
      · rfl)
   | (refine q_run ?_ ?_ ?_ ?_
      · kernel_rfl
      rotate_left
      · intro w_ hw_
        have c0 := Mine.at hw_ 0 _ rfl
        have c1 := Mine.at hw_ 1 _ rfl
        have c2 := Mine.at hw_ 2 _ rfl
        have cl := Mine.lt hw_
        first | (go_simp; done) | (go_simp; with_reducible rfl) | (go_simp; rw [if_neg (by first | omega | (simp; omega))]))
  try simp only [Act.put, List.setIfInBounds_toArray, List.set_cons_zero, List.set_cons_succ]
  try simp only [e1, e1', e2, e3, e4]
  refine q_run ?_ ?_ ?_ ?_
  · kernel_rfl
  rotate_left
  · intro w_ hw_
    have c0 := Mine.at hw_ 0 _ rfl
    have c1 := Mine.at hw_ 1 _ rfl
    have c2 := Mine.at hw_ 2 _ rfl
    have cl := Mine.lt hw_
    first | (go_simp; done) | (go_simp; with_reducible rfl) | (go_simp; rw [if_neg (by first | omega | (simp; omega))])
  try simp only [Act.put, List.setIfInBounds_toArray, List.set_cons_zero, List.set_cons_succ]
  try simp only [e1, e1', e2, e3, e4]
  refine q_run ?_ ?_ ?_ ?_
  · kernel_rfl
  rotate_left
  · intro w_ hw_
    have c0 := Mine.at hw_ 0 _ rfl
    have c1 := Mine.at hw_ 1 _ rfl
    have c2 := Mine.at hw_ 2 _ rfl
    have cl := Mine.lt hw_
    first | (go_simp; done) | (go_simp; with_reducible rfl) | (go_simp; rw [if_neg (by first | omega | (simp; omega))])
  try simp only [Act.put, List.setIfInBounds_toArray, List.set_cons_zero, List.set_cons_succ]
  try simp only [e1, e1', e2, e3, e4]
  first
   | (refine q_skip ?_ ?_
      · rfl)
   | (refine q_run ?_ ?_ ?_ ?_
      · kernel_rfl
      rotate_left
      · intro w_ hw_
        have c0 := Mine.at hw_ 0 _ rfl
        have c1 := Mine.at hw_ 1 _ rfl
        have c2 := Mine.at hw_ 2 _ rfl
        have cl := Mine.lt hw_
        first | (go_simp; done) | (go_simp; with_reducible rfl) | (go_simp; rw [if_neg (by first | omega | (simp; omega))]))
  try simp only [Act.put, List.setIfInBounds_toArray, List.set_cons_zero, List.set_cons_succ]
  try simp only [e1, e1', e2, e3, e4]
  first
   | (refine q_skip ?_ ?_
      · rfl)
   | (refine q_run ?_ ?_ ?_ ?_
      · kernel_rfl
      rotate_left
      · intro w_ hw_
        have c0 := Mine.at hw_ 0 _ rfl
        have c1 := Mine.at hw_ 1 _ rfl
        have c2 := Mine.at hw_ 2 _ rfl
        have cl := Mine.lt hw_
        first | (go_simp; done) | (go_simp; with_reducible rfl) | (go_simp; rw [if_neg (by first | omega | (simp; omega))]))
  try simp only [Act.put, List.setIfInBounds_toArray, List.set_cons_zero, List.set_cons_succ]
  try simp only [e1, e1', e2, e3, e4]
  first
   | (refine q_skip ?_ ?_
      · rfl)
   | (refine q_run ?_ ?_ ?_ ?_
      · kernel_rfl
      rotate_left
      · intro w_ hw_
        have c0 := Mine.at hw_ 0 _ rfl
        have c1 := Mine.at hw_ 1 _ rfl
        have c2 := Mine.at hw_ 2 _ rfl
        have cl := Mine.lt hw_
        first | (go_simp; done) | (go_simp; with_reducible rfl) | (go_simp; rw [if_neg (by first | omega | (simp; omega))]))
  try simp only [Act.put, List.setIfInBounds_toArray, List.set_cons_zero, List.set_cons_succ]
  try simp only [e1, e1', e2, e3, e4]
  first
   | (refine q_skip ?_ ?_
      · rfl)
   | (refine q_run ?_ ?_ ?_ ?_
      · kernel_rfl
      rotate_left
      · intro w_ hw_
        have c0 := Mine.at hw_ 0 _ rfl
        have c1 := Mine.at hw_ 1 _ rfl
        have c2 := Mine.at hw_ 2 _ rfl
        have cl := Mine.lt hw_
        first | (go_simp; done) | (go_simp; with_reducible rfl) | (go_simp; rw [if_neg (by first | omega | (simp; omega))]))
  try simp only [Act.put, List.setIfInBounds_toArray, List.set_cons_zero, List.set_cons_succ]
  try simp only [e1, e1', e2, e3, e4]
  first
   | (refine q_skip ?_ ?_
      · rfl)
   | (refine q_run ?_ ?_ ?_ ?_
      · kernel_rfl
      rotate_left
      · intro w_ hw_
        have c0 := Mine.at hw_ 0 _ rfl
        have c1 := Mine.at hw_ 1 _ rfl
        have c2 := Mine.at hw_ 2 _ rfl
        have cl := Mine.lt hw_
        first | (go_simp; done) | (go_simp; with_reducible rfl) | (go_simp; rw [if_neg (by first | omega | (simp; omega))]))
  try simp only [Act.put, List.setIfInBounds_toArray, List.set_cons_zero, List.set_cons_succ]
  try simp only [e1, e1', e2, e3, e4]
  first
   | (refine q_skip ?_ ?_
      · rfl)
   | (refine q_run ?_ ?_ ?_ ?_
      · kernel_rfl
      rotate_left
      · intro w_ hw_
        have c0 := Mine.at hw_ 0 _ rfl
        have c1 := Mine.at hw_ 1 _ rfl
        have c2 := Mine.at hw_ 2 _ rfl
        have cl := Mine.lt hw_
        first | (go_simp; done) | (go_simp; with_reducible rfl) | (go_simp; rw [if_neg (by first | omega | (simp; omega))]))
  try simp only [Act.put, List.setIfInBounds_toArray, List.set_cons_zero, List.set_cons_succ]
  try simp only [e1, e1', e2, e3, e4]
  first
   | (refine q_skip ?_ ?_
      · rfl)
   | (refine q_run ?_ ?_ ?_ ?_
      · kernel_rfl
      rotate_left
      · intro w_ hw_
        have c0 := Mine.at hw_ 0 _ rfl
        have c1 := Mine.at hw_ 1 _ rfl
        have c2 := Mine.at hw_ 2 _ rfl
        have cl := Mine.lt hw_
        first | (go_simp; done) | (go_simp; with_reducible rfl) | (go_simp; rw [if_neg (by first | omega | (simp; omega))]))
  try simp only [Act.put, List.setIfInBounds_toArray, List.set_cons_zero, List.set_cons_succ]
  try simp only [e1, e1', e2, e3, e4]
  first
   | (refine q_skip ?_ ?_
      · rfl)
   | (refine q_run ?_ ?_ ?_ ?_
      · kernel_rfl
      rotate_left
      · intro w_ hw_
        have c0 := Mine.at hw_ 0 _ rfl
        have c1 := Mine.at hw_ 1 _ rfl
        have c2 := Mine.at hw_ 2 _ rfl
        have cl := Mine.lt hw_
        first | (go_simp; done) | (go_simp; with_reducible rfl) | (go_simp; rw [if_neg (by first | omega | (simp; omega))]))
  try simp only [Act.put, List.setIfInBounds_toArray, List.set_cons_zero, List.set_cons_succ]
  try simp only [e1, e1', e2, e3, e4]
  refine q_run ?_ ?_ ?_ ?_
  · kernel_rfl
  rotate_left
  · intro w_ hw_
    have c0 := Mine.at hw_ 0 _ rfl
    have c1 := Mine.at hw_ 1 _ rfl
    have c2 := Mine.at hw_ 2 _ rfl
    have cl := Mine.lt hw_
    first | (go_simp; done) | (go_simp; with_reducible rfl) | (go_simp; rw [if_neg (by first | omega | (simp; omega))])
  try simp only [Act.put, List.setIfInBounds_toArray, List.set_cons_zero, List.set_cons_succ]
  try simp only [e1, e1', e2, e3, e4]
  refine q_run ?_ ?_ ?_ ?_
  · kernel_rfl
  rotate_left
  · intro w_ hw_
    have c0 := Mine.at hw_ 0 _ rfl
    have c1 := Mine.at hw_ 1 _ rfl
    have c2 := Mine.at hw_ 2 _ rfl
    have cl := Mine.lt hw_
    first | (go_simp; done) | (go_simp; with_reducible rfl) | (go_simp; rw [if_neg (by first | omega | (simp; omega))])
  try simp only [Act.put, List.setIfInBounds_toArray, List.set_cons_zero, List.set_cons_succ]
  try simp only [e1, e1', e2, e3, e4]
  first
   | (refine q_skip ?_ ?_
      · rfl)
   | (refine q_run ?_ ?_ ?_ ?_
      · kernel_rfl
      rotate_left
      · intro w_ hw_
        have c0 := Mine.at hw_ 0 _ rfl
        have c1 := Mine.at hw_ 1 _ rfl
        have c2 := Mine.at hw_ 2 _ rfl
        have cl := Mine.lt hw_
        first | (go_simp; done) | (go_simp; with_reducible rfl) | (go_simp; rw [if_neg (by first | omega | (simp; omega))]))
  try simp only [Act.put, List.setIfInBounds_toArray, List.set_cons_zero, List.set_cons_succ]
  try simp only [e1, e1', e2, e3, e4]
  first
   | (refine q_skip ?_ ?_
      · rfl)
   | (refine q_run ?_ ?_ ?_ ?_
      · kernel_rfl
      rotate_left
      · intro w_ hw_
        have c0 := Mine.at hw_ 0 _ rfl
        have c1 := Mine.at hw_ 1 _ rfl
        have c2 := Mine.at hw_ 2 _ rfl
        have cl := Mine.lt hw_
        first | (go_simp; done) | (go_simp; with_reducible rfl) | (go_simp; rw [if_neg (by first | omega | (simp; omega))]))
  try simp only [Act.put, List.setIfInBounds_toArray, List.set_cons_zero, List.set_cons_succ]
  try simp only [e1, e1', e2, e3, e4]
  first
   | (refine q_skip ?_ ?_
      · rfl)
   | (refine q_run ?_ ?_ ?_ ?_
      · kernel_rfl
      rotate_left
      · intro w_ hw_
        have c0 := Mine.at hw_ 0 _ rfl
        have c1 := Mine.at hw_ 1 _ rfl
        have c2 := Mine.at hw_ 2 _ rfl
        have cl := Mine.lt hw_
        first | (go_simp; done) | (go_simp; with_reducible rfl) | (go_simp; rw [if_neg (by first | omega | (simp; omega))]))
  try simp only [Act.put, List.setIfInBounds_toArray, List.set_cons_zero, List.set_cons_succ]
  try simp only [e1, e1', e2, e3, e4]
  first
   | (refine q_skip ?_ ?_
      · rfl)
   | (refine q_run ?_ ?_ ?_ ?_
      · kernel_rfl
      rotate_left
      · intro w_ hw_
        have c0 := Mine.at hw_ 0 _ rfl
        have c1 := Mine.at hw_ 1 _ rfl
        have c2 := Mine.at hw_ 2 _ rfl
        have cl := Mine.lt hw_
        first | (go_simp; done) | (go_simp; with_reducible rfl) | (go_simp; rw [if_neg (by first | omega | (simp; omega))]))
  try simp only [Act.put, List.setIfInBounds_toArray, List.set_cons_zero, List.set_cons_succ]
  try simp only [e1, e1', e2, e3, e4]
  first
   | (refine q_skip ?_ ?_
      · rfl)
   | (refine q_run ?_ ?_ ?_ ?_
      · kernel_rfl
      rotate_left
      · intro w_ hw_
        have c0 := Mine.at hw_ 0 _ rfl
        have c1 := Mine.at hw_ 1 _ rfl
        have c2 := Mine.at hw_ 2 _ rfl
        have cl := Mine.lt hw_
        first | (go_simp; done) | (go_simp; with_reducible rfl) | (go_simp; rw [if_neg (by first | omega | (simp; omega))]))
  try simp only [Act.put, List.setIfInBounds_toArray, List.set_cons_zero, List.set_cons_succ]
  try simp only [e1, e1', e2, e3, e4]
  first
   | (refine q_skip ?_ ?_
      · rfl)
   | (refine q_run ?_ ?_ ?_ ?_
      · kernel_rfl
      rotate_left
      · intro w_ hw_
        have c0 := Mine.at hw_ 0 _ rfl
        have c1 := Mine.at hw_ 1 _ rfl
        have c2 := Mine.at hw_ 2 _ rfl
        have cl := Mine.lt hw_
        first | (go_simp; done) | (go_simp; with_reducible rfl) | (go_simp; rw [if_neg (by first | omega | (simp; omega))]))
  try simp only [Act.put, List.setIfInBounds_toArray, List.set_cons_zero, List.set_cons_succ]
  try simp only [e1, e1', e2, e3, e4]
  first
   | (refine q_skip ?_ ?_
      · rfl)
   | (refine q_call ?_ (.bool true) ?_ ?_ ?_ ?_ ?_
      · kernel_rfl
      rotate_left 2
      · intro w_ hw_
        go_simp
        refine ⟨?_, ?_⟩ <;> with_reducible rfl
      · intro w_ hw_
        have c0 := Mine.at hw_ 0 _ rfl
        have c1 := Mine.at hw_ 1 _ rfl
        have c2 := Mine.at hw_ 2 _ rfl
        have cl := Mine.lt hw_
        exact (hty _).mono fun _ _ ⟨h1_, h2_⟩ => ⟨h1_, hw_.next h2_⟩)
  try simp only [Act.put, List.setIfInBounds_toArray, List.set_cons_zero, List.set_cons_succ]
  try simp only [e1, e1', e2, e3, e4]
  first
   | (refine q_skip ?_ ?_
      · rfl)
   | (refine q_run ?_ ?_ ?_ ?_
      · kernel_rfl
      rotate_left
      · intro w_ hw_
        have c0 := Mine.at hw_ 0 _ rfl
        have c1 := Mine.at hw_ 1 _ rfl
        have c2 := Mine.at hw_ 2 _ rfl
        have cl := Mine.lt hw_
        first | (go_simp; done) | (go_simp; with_reducible rfl) | (go_simp; rw [if_neg (by first | omega | (simp; omega))]))
  try simp only [Act.put, List.setIfInBounds_toArray, List.set_cons_zero, List.set_cons_succ]
  try simp only [e1, e1', e2, e3, e4]
  first
   | (refine q_skip ?_ ?_
      · rfl)
   | (refine q_run ?_ ?_ ?_ ?_
      · kernel_rfl
      rotate_left
      · intro w_ hw_
        have c0 := Mine.at hw_ 0 _ rfl
        have c1 := Mine.at hw_ 1 _ rfl
        have c2 := Mine.at hw_ 2 _ rfl
        have cl := Mine.lt hw_
        first | (go_simp; done) | (go_simp; with_reducible rfl) | (go_simp; rw [if_neg (by first | omega | (simp; omega))]))
  try simp only [Act.put, List.setIfInBounds_toArray, List.set_cons_zero, List.set_cons_succ]
  try simp only [e1, e1', e2, e3, e4]
  first
   | (refine q_skip ?_ ?_
      · rfl)
   | (refine q_run ?_ ?_ ?_ ?_
      · kernel_rfl
      rotate_left
      · intro w_ hw_
        have c0 := Mine.at hw_ 0 _ rfl
        have c1 := Mine.at hw_ 1 _ rfl
        have c2 := Mine.at hw_ 2 _ rfl
        have cl := Mine.lt hw_
        first | (go_simp; done) | (go_simp; with_reducible rfl) | (go_simp; rw [if_neg (by first | omega | (simp; omega))]))
  try simp only [Act.put, List.setIfInBounds_toArray, List.set_cons_zero, List.set_cons_succ]
  try simp only [e1, e1', e2, e3, e4]
  first
   | (refine q_skip ?_ ?_
      · rfl)
   | (refine q_run ?_ ?_ ?_ ?_
      · kernel_rfl
      rotate_left
      · intro w_ hw_
        have c0 := Mine.at hw_ 0 _ rfl
        have c1 := Mine.at hw_ 1 _ rfl
        have c2 := Mine.at hw_ 2 _ rfl
        have cl := Mine.lt hw_
        first | (go_simp; done) | (go_simp; with_reducible rfl) | (go_simp; rw [if_neg (by first | omega | (simp; omega))]))
  try simp only [Act.put, List.setIfInBounds_toArray, List.set_cons_zero, List.set_cons_succ]
  try simp only [e1, e1', e2, e3, e4]
  first
   | (refine q_skip ?_ ?_
      · rfl)
   | (refine q_call ?_ (.string uu) ?_ ?_ ?_ ?_ ?_
      · kernel_rfl
      rotate_left 2
      · intro w_ hw_
        go_simp
        refine ⟨?_, ?_⟩ <;> with_reducible rfl
      · intro w_ hw_
        have c0 := Mine.at hw_ 0 _ rfl
        have c1 := Mine.at hw_ 1 _ rfl
        have c2 := Mine.at hw_ 2 _ rfl
        have cl := Mine.lt hw_
        exact (hup _).mono fun _ _ ⟨h1_, h2_⟩ => ⟨h1_, hw_.next h2_⟩)
  try simp only [Act.put, List.setIfInBounds_toArray, List.set_cons_zero, List.set_cons_succ]
  try simp only [e1, e1', e2, e3, e4]
  first
   | (refine q_skip ?_ ?_
      · rfl)
   | (refine q_run ?_ ?_ ?_ ?_
      · kernel_rfl
      rotate_left
      · intro w_ hw_
        have c0 := Mine.at hw_ 0 _ rfl
        have c1 := Mine.at hw_ 1 _ rfl
        have c2 := Mine.at hw_ 2 _ rfl
        have cl := Mine.lt hw_
        first | (go_simp; done) | (go_simp; with_reducible rfl) | (go_simp; rw [if_neg (by first | omega | (simp; omega))]))
  try simp only [Act.put, List.setIfInBounds_toArray, List.set_cons_zero, List.set_cons_succ]
  try simp only [e1, e1', e2, e3, e4]
  first
   | (refine q_skip ?_ ?_
      · rfl)
   | (refine q_run ?_ ?_ ?_ ?_
      · kernel_rfl
      rotate_left
      · intro w_ hw_
        have c0 := Mine.at hw_ 0 _ rfl
        have c1 := Mine.at hw_ 1 _ rfl
        have c2 := Mine.at hw_ 2 _ rfl
        have cl := Mine.lt hw_
        first | (go_simp; done) | (go_simp; with_reducible rfl) | (go_simp; rw [if_neg (by first | omega | (simp; omega))]))
  try simp only [Act.put, List.setIfInBounds_toArray, List.set_cons_zero, List.set_cons_succ]
  try simp only [e1, e1', e2, e3, e4]
  first
   | (refine q_skip ?_ ?_
      · rfl)
   | (refine q_run ?_ ?_ ?_ ?_
      · kernel_rfl
      rotate_left
      · intro w_ hw_
        have c0 := Mine.at hw_ 0 _ rfl
        have c1 := Mine.at hw_ 1 _ rfl
        have c2 := Mine.at hw_ 2 _ rfl
        have cl := Mine.lt hw_
        first | (go_simp; done) | (go_simp; with_reducible rfl) | (go_simp; rw [if_neg (by first | omega | (simp; omega))]))
  try simp only [Act.put, List.setIfInBounds_toArray, List.set_cons_zero, List.set_cons_succ]
  try simp only [e1, e1', e2, e3, e4]
  first
   | (refine q_skip ?_ ?_
      · rfl)
   | (refine q_run ?_ ?_ ?_ ?_
      · kernel_rfl
      rotate_left
      · intro w_ hw_
        have c0 := Mine.at hw_ 0 _ rfl
        have c1 := Mine.at hw_ 1 _ rfl
        have c2 := Mine.at hw_ 2 _ rfl
        have cl := Mine.lt hw_
        first | (go_simp; done) | (go_simp; with_reducible rfl) | (go_simp; rw [if_neg (by first | omega | (simp; omega))]))
  try simp only [Act.put, List.setIfInBounds_toArray, List.set_cons_zero, List.set_cons_succ]
  try simp only [e1, e1', e2, e3, e4]
  first
   | (refine q_skip ?_ ?_
      · rfl)
   | (refine q_run ?_ ?_ ?_ ?_
      · kernel_rfl
      rotate_left
      · intro w_ hw_
        have c0 := Mine.at hw_ 0 _ rfl
        have c1 := Mine.at hw_ 1 _ rfl
        have c2 := Mine.at hw_ 2 _ rfl
        have cl := Mine.lt hw_
        first | (go_simp; done) | (go_simp; with_reducible rfl) | (go_simp; rw [if_neg (by first | omega | (simp; omega))]))
  try simp only [Act.put, List.setIfInBounds_toArray, List.set_cons_zero, List.set_cons_succ]
  try simp only [e1, e1', e2, e3, e4]
  refine q_run ?_ ?_ ?_ ?_
  · kernel_rfl
  rotate_left
  · intro w_ hw_
    have c0 := Mine.at hw_ 0 _ rfl
    have c1 := Mine.at hw_ 1 _ rfl
    have c2 := Mine.at hw_ 2 _ rfl
    have cl := Mine.lt hw_
    first | (go_simp; done) | (go_simp; with_reducible rfl) | (go_simp; rw [if_neg (by first | omega | (simp; omega))])
  try simp only [Act.put, List.setIfInBounds_toArray, List.set_cons_zero, List.set_cons_succ]
  try simp only [e1, e1', e2, e3, e4]
  refine q_nil ?_
  intro W_ hC_
  replace M := Aside.mk hC_
  clear hC_ z0 z1 z2 zl
  have z0 := Mine.at M.out 0 _ rfl
  have z1 := Mine.at M.out 1 _ rfl
  have z2 := Mine.at M.out 2 _ rfl
  have zl := Mine.lt M.out
  go_wp2
  go_ret
  exact ⟨rfl, M.out.low⟩
set_option maxHeartbeats 4000000 in
theorem pr_D1 (nt kd oc : ByteArray) (hcon : Lib.containsS [⟨#[]⟩, ⟨#[78]⟩, ⟨#[83]⟩, ⟨#[70]⟩, ⟨#[68]⟩, ⟨#[83, 70]⟩, ⟨#[83, 68]⟩, ⟨#[70, 68]⟩, ⟨#[83, 70, 68]⟩] nt = true) (e1 : (kd.toList == []) = false) (e1' : (kd.toList != []) = true) (e2 : (oc.toList == []) = false) (rty : Pm.typed kd.data.toList = false) (w : World) (hk : kd.size ≤ 100000) : Calls Tryz.prog 31 #[.agg #[.string nt, .string kd, .string oc]] w fun e w' => e = .returned (.int .i64 2) ∧ Below w.heap.size w w' := by
  have M : Aside (Mine w [(w.heap.size, #[.string nt, .string kd, .string oc], 41)] (w.alloc (.cells #[.string nt, .string kd, .string oc] 41))) := ⟨(Mine.start w).alloc #[.string nt, .string kd, .string oc] 41⟩
  have HC := Lib.hid (show (#[.string ⟨#[]⟩, .string ⟨#[78]⟩, .string ⟨#[83]⟩, .string ⟨#[70]⟩, .string ⟨#[68]⟩, .string ⟨#[83, 70]⟩, .string ⟨#[83, 68]⟩, .string ⟨#[70, 68]⟩, .string ⟨#[83, 70, 68]⟩] : Array Value) = (([⟨#[]⟩, ⟨#[78]⟩, ⟨#[83]⟩, ⟨#[70]⟩, ⟨#[68]⟩, ⟨#[83, 70]⟩, ⟨#[83, 68]⟩, ⟨#[70, 68]⟩, ⟨#[83, 70, 68]⟩] : List ByteArray).map Value.string).toArray from rfl)
  have hty := fun W => refTyped_any kd hk W
  have hup := fun W => refUpper_any kd hk W
  go_enter Tryz.func31, Tryz.ntmps31
  go_wp2_with (first | (go_at_call 68; (with_reducible refine (amongR_fresh nt [⟨#[]⟩, ⟨#[78]⟩, ⟨#[83]⟩, ⟨#[70]⟩, ⟨#[68]⟩, ⟨#[83, 70]⟩, ⟨#[83, 68]⟩, ⟨#[70, 68]⟩, ⟨#[83, 70, 68]⟩] #[.string ⟨#[]⟩, .string ⟨#[78]⟩, .string ⟨#[83]⟩, .string ⟨#[70]⟩, .string ⟨#[68]⟩, .string ⟨#[83, 70]⟩, .string ⟨#[83, 68]⟩, .string ⟨#[70, 68]⟩, .string ⟨#[83, 70, 68]⟩] HC.out 9 (show List.length _ = _ from rfl) (by decide) _ hcon (w.alloc (.cells #[.string nt, .string kd, .string oc] 41)) (w.heap.size + 1) (by simp)).mono ?_); rintro e W1 ⟨rfl, hb⟩; replace M := Aside.mk (M.out.next hb); clear hb; have z0 := Mine.at M.out 0 _ rfl; have z1 := Mine.at M.out 1 _ rfl; have z2 := Mine.at M.out 2 _ rfl; have zl := Mine.lt M.out))
  rw [rty] at hty
  clear hcon
  refine region_class (C := (fun w' => Mine w [(w.heap.size, #[.string nt, .string kd, .string oc], 41)] w')) (by kernel_rfl) (by kernel_rfl) (M.out.drewN 1) ?_
  refine q_run ?_ ?_ ?_ ?_
  · kernel_rfl
  rotate_left
  · intro w_ hw_
    have c0 := Mine.at hw_ 0 _ rfl
    have c1 := Mine.at hw_ 1 _ rfl
    have c2 := Mine.at hw_ 2 _ rfl
    have cl := Mine.lt hw_
    first | (go_simp; done) | (go_simp; with_reducible rfl) | (go_simp; rw [if_neg (by first | omega | (simp; omega))])
  try simp only [Act.put, List.setIfInBounds_toArray, List.set_cons_zero, List.set_cons_succ]
  try simp only [e1, e1', e2]
  refine q_run ?_ ?_ ?_ ?_
  · kernel_rfl
  rotate_left
  · intro w_ hw_
    have c0 := Mine.at hw_ 0 _ rfl
    have c1 := Mine.at hw_ 1 _ rfl
    have c2 := Mine.at hw_ 2 _ rfl
    have cl := Mine.lt hw_
    first | (go_simp; done) | (go_simp; with_reducible rfl) | (go_simp; rw [if_neg (by first | omega | (simp; omega))])
  try simp only [Act.put, List.setIfInBounds_toArray, List.set_cons_zero, List.set_cons_succ]
  try simp only [e1, e1', e2]
  refine q_run ?_ ?_ ?_ ?_
  · kernel_rfl
  rotate_left
  · intro w_ hw_
    have c0 := Mine.at hw_ 0 _ rfl
    have c1 := Mine.at hw_ 1 _ rfl
    have c2 := Mine.at hw_ 2 _ rfl
    have cl := Mine.lt hw_
    first | (go_simp; done) | (go_simp; with_reducible rfl) | (go_simp; rw [if_neg (by first | omega | (simp; omega))])
  try simp only [Act.put, List.setIfInBounds_toArray, List.set_cons_zero, List.set_cons_succ]
  try simp only [e1, e1', e2]
  refine q_run ?_ ?_ ?_ ?_
  · kernel_rfl
  rotate_left
  · intro w_ hw_
    have c0 := Mine.at hw_ 0 _ rfl
    have c1 := Mine.at hw_ 1 _ rfl
    have c2 := Mine.at hw_ 2 _ rfl
    have cl := Mine.lt hw_
    first | (go_simp; done) | (go_simp; with_reducible rfl) | (go_simp; rw [if_neg (by first | omega | (simp; omega))])
  try simp only [Act.put, List.setIfInBounds_toArray, List.set_cons_zero, List.set_cons_succ]
  try simp only [e1, e1', e2]
  first
   | (refine q_skip ?_ ?_
      · rfl)
   | (refine q_run ?_ ?_ ?_ ?_
      · kernel_rfl
      rotate_left
      · intro w_ hw_
        have c0 := Mine.at hw_ 0 _ rfl
        have c1 := Mine.at hw_ 1 _ rfl
        have c2 := Mine.at hw_ 2 _ rfl
        have cl := Mine.lt hw_
        first | (go_simp; done) | (go_simp; with_reducible rfl) | (go_simp; rw [if_neg (by first | omega | (simp; omega))]))
  try simp only [Act.put, List.setIfInBounds_toArray, List.set_cons_zero, List.set_cons_succ]
  try simp only [e1, e1', e2]
  first
   | (refine q_skip ?_ ?_
      · rfl)
   | (refine q_run ?_ ?_ ?_ ?_
      · kernel_rfl
      rotate_left
      · intro w_ hw_
        have c0 := Mine.at hw_ 0 _ rfl
        have c1 := Mine.at hw_ 1 _ rfl
        have c2 := Mine.at hw_ 2 _ rfl
        have cl := Mine.lt hw_
        first | (go_simp; done) | (go_simp; with_reducible rfl) | (go_simp; rw [if_neg (by first | omega | (simp; omega))]))
  try simp only [Act.put, List.setIfInBounds_toArray, List.set_cons_zero, List.set_cons_succ]
  try simp only [e1, e1', e2]
  first
   | (refine q_skip ?_ ?_
      · rfl)
   | (refine q_run ?_ ?_ ?_ ?_
      · kernel_rfl
      rotate_left
      · intro w_ hw_
        have c0 := Mine.at hw_ 0 _ rfl
        have c1 := Mine.at hw_ 1 _ rfl
        have c2 := Mine.at hw_ 2 _ rfl
        have cl := Mine.lt hw_
        first | (go_simp; done) | (go_simp; with_reducible rfl) | (go_simp; rw [if_neg (by first | omega | (simp; omega))]))
  try simp only [Act.put, List.setIfInBounds_toArray, List.set_cons_zero, List.set_cons_succ]
  try simp only [e1, e1', e2]
  refine q_run ?_ ?_ ?_ ?_
  · kernel_rfl
  rotate_left
  · intro w_ hw_
    have c0 := Mine.at hw_ 0 _ rfl
    have c1 := Mine.at hw_ 1 _ rfl
    have c2 := Mine.at hw_ 2 _ rfl
    have cl := Mine.lt hw_
    first | (go_simp; done) | (go_simp; with_reducible rfl) | (go_simp; rw [if_neg (by first | omega | (simp; omega))])
  try simp only [Act.put, List.setIfInBounds_toArray, List.set_cons_zero, List.set_cons_succ]
  try simp only [e1, e1', e2]
  refine q_run ?_ ?_ ?_ ?_
  · kernel_rfl
  rotate_left
  · intro w_ hw_
    have c0 := Mine.at hw_ 0 _ rfl
    have c1 := Mine.at hw_ 1 _ rfl
    have c2 := Mine.at hw_ 2 _ rfl
    have cl := Mine.lt hw_
    first | (go_simp; done) | (go_simp; with_reducible rfl) | (go_simp; rw [if_neg (by first | omega | (simp; omega))])
  try simp only [Act.put, List.setIfInBounds_toArray, List.set_cons_zero, List.set_cons_succ]
  try simp only [e1, e1', e2]
  first
   | (refine q_skip ?_ ?_
      · rfl)
   | (refine q_run ?_ ?_ ?_ ?_
      · kernel_rfl
      rotate_left
      · intro w_ hw_
        have c0 := Mine.at hw_ 0 _ rfl
        have c1 := Mine.at hw_ 1 _ rfl
        have c2 := Mine.at hw_ 2 _ rfl
        have cl := Mine.lt hw_
        first | (go_simp; done) | (go_simp; with_reducible rfl) | (go_simp; rw [if_neg (by first | omega | (simp; omega))]))
  try simp only [Act.put, List.setIfInBounds_toArray, List.set_cons_zero, List.set_cons_succ]
  try simp only [e1, e1', e2]
  first
   | (refine q_skip ?_ ?_
      · rfl)
   | (refine q_run ?_ ?_ ?_ ?_
      · kernel_rfl
      rotate_left
      · intro w_ hw_
        have c0 := Mine.at hw_ 0 _ rfl
        have c1 := Mine.at hw_ 1 _ rfl
        have c2 := Mine.at hw_ 2 _ rfl
        have cl := Mine.lt hw_
        first | (go_simp; done) | (go_simp; with_reducible rfl) | (go_simp; rw [if_neg (by first | omega | (simp; omega))]))
  try simp only [Act.put, List.setIfInBounds_toArray, List.set_cons_zero, List.set_cons_succ]
  try simp only [e1, e1', e2]
  first
   | (refine q_skip ?_ ?_
      · rfl)
   | (refine q_run ?_ ?_ ?_ ?_
      · kernel_rfl
      rotate_left
      · intro w_ hw_
        have c0 := Mine.at hw_ 0 _ rfl
        have c1 := Mine.at hw_ 1 _ rfl
        have c2 := Mine.at hw_ 2 _ rfl
        have cl := Mine.lt hw_
        first | (go_simp; done) | (go_simp; with_reducible rfl) | (go_simp; rw [if_neg (by first | omega | (simp; omega))]))
  try simp only [Act.put, List.setIfInBounds_toArray, List.set_cons_zero, List.set_cons_succ]
  try simp only [e1, e1', e2]
  first
   | (refine q_skip ?_ ?_
      · rfl)
   | (refine q_run ?_ ?_ ?_ ?_
      · kernel_rfl
      rotate_left
      · intro w_ hw_
        have c0 := Mine.at hw_ 0 _ rfl
        have c1 := Mine.at hw_ 1 _ rfl
        have c2 := Mine.at hw_ 2 _ rfl
        have cl := Mine.lt hw_
        first | (go_simp; done) | (go_simp; with_reducible rfl) | (go_simp; rw [if_neg (by first | omega | (simp; omega))]))
  try simp only [Act.put, List.setIfInBounds_toArray, List.set_cons_zero, List.set_cons_succ]
  try simp only [e1, e1', e2]
  first
   | (refine q_skip ?_ ?_
      · rfl)
   | (refine q_run ?_ ?_ ?_ ?_
      · kernel_rfl
      rotate_left
      · intro w_ hw_
        have c0 := Mine.at hw_ 0 _ rfl
        have c1 := Mine.at hw_ 1 _ rfl
        have c2 := Mine.at hw_ 2 _ rfl
        have cl := Mine.lt hw_
        first | (go_simp; done) | (go_simp; with_reducible rfl) | (go_simp; rw [if_neg (by first | omega | (simp; omega))]))
  try simp only [Act.put, List.setIfInBounds_toArray, List.set_cons_zero, List.set_cons_succ]
  try simp only [e1, e1', e2]
  first
   | (refine q_skip ?_ ?_
      · rfl)
   | (refine q_run ?_ ?_ ?_ ?_
      · kernel_rfl
      rotate_left
      · intro w_ hw_
        have c0 := Mine.at hw_ 0 _ rfl
        have c1 := Mine.at hw_ 1 _ rfl
        have c2 := Mine.at hw_ 2 _ rfl
        have cl := Mine.lt hw_
        first | (go_simp; done) | (go_simp; with_reducible rfl) | (go_simp; rw [if_neg (by first | omega | (simp; omega))]))
  try simp only [Act.put, List.setIfInBounds_toArray, List.set_cons_zero, List.set_cons_succ]
  try simp only [e1, e1', e2]
  first
   | (refine q_skip ?_ ?_
      · rfl)
   | (refine q_run ?_ ?_ ?_ ?_
      · kernel_rfl
      rotate_left
      · intro w_ hw_
        have c0 := Mine.at hw_ 0 _ rfl
        have c1 := Mine.at hw_ 1 _ rfl
        have c2 := Mine.at hw_ 2 _ rfl
        have cl := Mine.lt hw_
        first | (go_simp; done) | (go_simp; with_reducible rfl) | (go_simp; rw [if_neg (by first | omega | (simp; omega))]))
  try simp only [Act.put, List.setIfInBounds_toArray, List.set_cons_zero, List.set_cons_succ]
  try simp only [e1, e1', e2]
  first
   | (refine q_skip ?_ ?_
      · rfl)
   | (refine q_run ?_ ?_ ?_ ?_
      · kernel_rfl
      rotate_left
      · intro w_ hw_
        have c0 := Mine.at hw_ 0 _ rfl
        have c1 := Mine.at hw_ 1 _ rfl
        have c2 := Mine.at hw_ 2 _ rfl
        have cl := Mine.lt hw_
        first | (go_simp; done) | (go_simp; with_reducible rfl) | (go_simp; rw [if_neg (by first | omega | (simp; omega))]))
  try simp only [Act.put, List.setIfInBounds_toArray, List.set_cons_zero, List.set_cons_succ]
  try simp only [e1, e1', e2]
  refine q_run ?_ ?_ ?_ ?_
  · kernel_rfl
  rotate_left
  · intro w_ hw_
    have c0 := Mine.at hw_ 0 _ rfl
    have c1 := Mine.at hw_ 1 _ rfl
    have c2 := Mine.at hw_ 2 _ rfl
    have cl := Mine.lt hw_
    first | (go_simp; done) | (go_simp; with_reducible rfl) | (go_simp; rw [if_neg (by first | omega | (simp; omega))])
  try simp only [Act.put, List.setIfInBounds_toArray, List.set_cons_zero, List.set_cons_succ]
  try simp only [e1, e1', e2]
  refine q_run ?_ ?_ ?_ ?_
  · kernel_rfl
  rotate_left
  · intro w_ hw_
    have c0 := Mine.at hw_ 0 _ rfl
    have c1 := Mine.at hw_ 1 _ rfl
    have c2 := Mine.at hw_ 2 _ rfl
    have cl := Mine.lt hw_
    first | (go_simp; done) | (go_simp; with_reducible rfl) | (go_simp; rw [if_neg (by first | omega | (simp; omega))])
  try simp only [Act.put, List.setIfInBounds_toArray, List.set_cons_zero, List.set_cons_succ]
  try simp only [e1, e1', e2]
  first
   | (refine q_skip ?_ ?_
      · rfl)
   | (refine q_run ?_ ?_ ?_ ?_
      · kernel_rfl
      rotate_left
      · intro w_ hw_
        have c0 := Mine.at hw_ 0 _ rfl
        have c1 := Mine.at hw_ 1 _ rfl
        have c2 := Mine.at hw_ 2 _ rfl
        have cl := Mine.lt hw_
        first | (go_simp; done) | (go_simp; with_reducible rfl) | (go_simp; rw [if_neg (by first | omega | (simp; omega))]))
  try simp only [Act.put, List.setIfInBounds_toArray, List.set_cons_zero, List.set_cons_succ]
  try simp only [e1, e1', e2]
  first
   | (refine q_skip ?_ ?_
      · rfl)
   | (refine q_run ?_ ?_ ?_ ?_
      · kernel_rfl
      rotate_left
      · intro w_ hw_
        have c0 := Mine.at hw_ 0 _ rfl
        have c1 := Mine.at hw_ 1 _ rfl
        have c2 := Mine.at hw_ 2 _ rfl
        have cl := Mine.lt hw_
        first | (go_simp; done) | (go_simp; with_reducible rfl) | (go_simp; rw [if_neg (by first | omega | (simp; omega))]))
  try simp only [Act.put, List.setIfInBounds_toArray, List.set_cons_zero, List.set_cons_succ]
  try simp only [e1, e1', e2]
  first
   | (refine q_skip ?_ ?_
      · rfl)
   | (refine q_run ?_ ?_ ?_ ?_
      · kernel_rfl
      rotate_left
      · intro w_ hw_
        have c0 := Mine.at hw_ 0 _ rfl
        have c1 := Mine.at hw_ 1 _ rfl
        have c2 := Mine.at hw_ 2 _ rfl
        have cl := Mine.lt hw_
        first | (go_simp; done) | (go_simp; with_reducible rfl) | (go_simp; rw [if_neg (by first | omega | (simp; omega))]))
  try simp only [Act.put, List.setIfInBounds_toArray, List.set_cons_zero, List.set_cons_succ]
  try simp only [e1, e1', e2]
  first
   | (refine q_skip ?_ ?_
      · rfl)
   | (refine q_run ?_ ?_ ?_ ?_
      · kernel_rfl
      rotate_left
      · intro w_ hw_
        have c0 := Mine.at hw_ 0 _ rfl
        have c1 := Mine.at hw_ 1 _ rfl
        have c2 := Mine.at hw_ 2 _ rfl
        have cl := Mine.lt hw_
        first | (go_simp; done) | (go_simp; with_reducible rfl) | (go_simp; rw [if_neg (by first | omega | (simp; omega))]))
  try simp only [Act.put, List.setIfInBounds_toArray, List.set_cons_zero, List.set_cons_succ]
  try simp only [e1, e1', e2]
  first
   | (refine q_skip ?_ ?_
      · rfl)
   | (refine q_run ?_ ?_ ?_ ?_
      · kernel_rfl
      rotate_left
      · intro w_ hw_
        have c0 := Mine.at hw_ 0 _ rfl
        have c1 := Mine.at hw_ 1 _ rfl
        have c2 := Mine.at hw_ 2 _ rfl
        have cl := Mine.lt hw_
        first | (go_simp; done) | (go_simp; with_reducible rfl) | (go_simp; rw [if_neg (by first | omega | (simp; omega))]))
  try simp only [Act.put, List.setIfInBounds_toArray, List.set_cons_zero, List.set_cons_succ]
  try simp only [e1, e1', e2]
  first
   | (refine q_skip ?_ ?_
      · rfl)
   | (refine q_run ?_ ?_ ?_ ?_
      · kernel_rfl
      rotate_left
      · intro w_ hw_
        have c0 := Mine.at hw_ 0 _ rfl
        have c1 := Mine.at hw_ 1 _ rfl
        have c2 := Mine.at hw_ 2 _ rfl
        have cl := Mine.lt hw_
        first | (go_simp; done) | (go_simp; with_reducible rfl) | (go_simp; rw [if_neg (by first | omega | (simp; omega))]))
  try simp only [Act.put, List.setIfInBounds_toArray, List.set_cons_zero, List.set_cons_succ]
  try simp only [e1, e1', e2]
  first
   | (refine q_skip ?_ ?_
      · rfl)
   | (refine q_call ?_ (.bool false) ?_ ?_ ?_ ?_ ?_
      · kernel_rfl
      rotate_left 2
      · intro w_ hw_
        go_simp
        refine ⟨?_, ?_⟩ <;> with_reducible rfl
      · intro w_ hw_
        have c0 := Mine.at hw_ 0 _ rfl
        have c1 := Mine.at hw_ 1 _ rfl
        have c2 := Mine.at hw_ 2 _ rfl
        have cl := Mine.lt hw_
        exact (hty _).mono fun _ _ ⟨h1_, h2_⟩ => ⟨h1_, hw_.next h2_⟩)
  try simp only [Act.put, List.setIfInBounds_toArray, List.set_cons_zero, List.set_cons_succ]
  try simp only [e1, e1', e2]
  first
   | (refine q_skip ?_ ?_
      · rfl)
   | (refine q_run ?_ ?_ ?_ ?_
      · kernel_rfl
      rotate_left
      · intro w_ hw_
        have c0 := Mine.at hw_ 0 _ rfl
        have c1 := Mine.at hw_ 1 _ rfl
        have c2 := Mine.at hw_ 2 _ rfl
        have cl := Mine.lt hw_
        first | (go_simp; done) | (go_simp; with_reducible rfl) | (go_simp; rw [if_neg (by first | omega | (simp; omega))]))
  try simp only [Act.put, List.setIfInBounds_toArray, List.set_cons_zero, List.set_cons_succ]
  try simp only [e1, e1', e2]
  first
   | (refine q_skip ?_ ?_
      · rfl)
   | (refine q_run ?_ ?_ ?_ ?_
      · kernel_rfl
      rotate_left
      · intro w_ hw_
        have c0 := Mine.at hw_ 0 _ rfl
        have c1 := Mine.at hw_ 1 _ rfl
        have c2 := Mine.at hw_ 2 _ rfl
        have cl := Mine.lt hw_
        first | (go_simp; done) | (go_simp; with_reducible rfl) | (go_simp; rw [if_neg (by first | omega | (simp; omega))]))
  try simp only [Act.put, List.setIfInBounds_toArray, List.set_cons_zero, List.set_cons_succ]
  try simp only [e1, e1', e2]
  first
   | (refine q_skip ?_ ?_
      · rfl)
   | (refine q_run ?_ ?_ ?_ ?_
      · kernel_rfl
      rotate_left
      · intro w_ hw_
        have c0 := Mine.at hw_ 0 _ rfl
        have c1 := Mine.at hw_ 1 _ rfl
        have c2 := Mine.at hw_ 2 _ rfl
        have cl := Mine.lt hw_
        first | (go_simp; done) | (go_simp; with_reducible rfl) | (go_simp; rw [if_neg (by first | omega | (simp; omega))]))
  try simp only [Act.put, List.setIfInBounds_toArray, List.set_cons_zero, List.set_cons_succ]
  try simp only [e1, e1', e2]
  first
   | (refine q_skip ?_ ?_
      · rfl)
   | (refine q_run ?_ ?_ ?_ ?_
      · kernel_rfl
      rotate_left
      · intro w_ hw_
        have c0 := Mine.at hw_ 0 _ rfl
        have c1 := Mine.at hw_ 1 _ rfl
        have c2 := Mine.at hw_ 2 _ rfl
        have cl := Mine.lt hw_
        first | (go_simp; done) | (go_simp; with_reducible rfl) | (go_simp; rw [if_neg (by first | omega | (simp; omega))]))
  try simp only [Act.put, List.setIfInBounds_toArray, List.set_cons_zero, List.set_cons_succ]
  try simp only [e1, e1', e2]
  first
   | (refine q_skip ?_ ?_
      · rfl)
   | (refine q_call ?_ (.string (⟨(Txt.upper kd.data.toList).toArray⟩ : ByteArray)) ?_ ?_ ?_ ?_ ?_
      · kernel_rfl
      rotate_left 2
      · intro w_ hw_
        go_simp
        refine ⟨?_, ?_⟩ <;> with_reducible rfl
      · intro w_ hw_
        have c0 := Mine.at hw_ 0 _ rfl
        have c1 := Mine.at hw_ 1 _ rfl
        have c2 := Mine.at hw_ 2 _ rfl
        have cl := Mine.lt hw_
        exact (hup _).mono fun _ _ ⟨h1_, h2_⟩ => ⟨h1_, hw_.next h2_⟩)
  try simp only [Act.put, List.setIfInBounds_toArray, List.set_cons_zero, List.set_cons_succ]
  try simp only [e1, e1', e2]
  first
   | (refine q_skip ?_ ?_
      · rfl)
   | (refine q_run ?_ ?_ ?_ ?_
      · kernel_rfl
      rotate_left
      · intro w_ hw_
        have c0 := Mine.at hw_ 0 _ rfl
        have c1 := Mine.at hw_ 1 _ rfl
        have c2 := Mine.at hw_ 2 _ rfl
        have cl := Mine.lt hw_
        first | (go_simp; done) | (go_simp; with_reducible rfl) | (go_simp; rw [if_neg (by first | omega | (simp; omega))]))
  try simp only [Act.put, List.setIfInBounds_toArray, List.set_cons_zero, List.set_cons_succ]
  try simp only [e1, e1', e2]
  first
   | (refine q_skip ?_ ?_
      · rfl)
   | (refine q_run ?_ ?_ ?_ ?_
      · kernel_rfl
      rotate_left
      · intro w_ hw_
        have c0 := Mine.at hw_ 0 _ rfl
        have c1 := Mine.at hw_ 1 _ rfl
        have c2 := Mine.at hw_ 2 _ rfl
        have cl := Mine.lt hw_
        first | (go_simp; done) | (go_simp; with_reducible rfl) | (go_simp; rw [if_neg (by first | omega | (simp; omega))]))
  try simp only [Act.put, List.setIfInBounds_toArray, List.set_cons_zero, List.set_cons_succ]
  try simp only [e1, e1', e2]
  first
   | (refine q_skip ?_ ?_
      · rfl)
   | (refine q_run ?_ ?_ ?_ ?_
      · kernel_rfl
      rotate_left
      · intro w_ hw_
        have c0 := Mine.at hw_ 0 _ rfl
        have c1 := Mine.at hw_ 1 _ rfl
        have c2 := Mine.at hw_ 2 _ rfl
        have cl := Mine.lt hw_
        first | (go_simp; done) | (go_simp; with_reducible rfl) | (go_simp; rw [if_neg (by first | omega | (simp; omega))]))
  try simp only [Act.put, List.setIfInBounds_toArray, List.set_cons_zero, List.set_cons_succ]
  try simp only [e1, e1', e2]
  first
   | (refine q_skip ?_ ?_
      · rfl)
   | (refine q_run ?_ ?_ ?_ ?_
      · kernel_rfl
      rotate_left
      · intro w_ hw_
        have c0 := Mine.at hw_ 0 _ rfl
        have c1 := Mine.at hw_ 1 _ rfl
        have c2 := Mine.at hw_ 2 _ rfl
        have cl := Mine.lt hw_
        first | (go_simp; done) | (go_simp; with_reducible rfl) | (go_simp; rw [if_neg (by first | omega | (simp; omega))]))
  try simp only [Act.put, List.setIfInBounds_toArray, List.set_cons_zero, List.set_cons_succ]
  try simp only [e1, e1', e2]
  first
   | (refine q_skip ?_ ?_
      · rfl)
   | (refine q_run ?_ ?_ ?_ ?_
      · kernel_rfl
      rotate_left
      · intro w_ hw_
        have c0 := Mine.at hw_ 0 _ rfl
        have c1 := Mine.at hw_ 1 _ rfl
        have c2 := Mine.at hw_ 2 _ rfl
        have cl := Mine.lt hw_
        first | (go_simp; done) | (go_simp; with_reducible rfl) | (go_simp; rw [if_neg (by first | omega | (simp; omega))]))
  try simp only [Act.put, List.setIfInBounds_toArray, List.set_cons_zero, List.set_cons_succ]
  try simp only [e1, e1', e2]
  refine q_run ?_ ?_ ?_ ?_
  · kernel_rfl
  rotate_left
  · intro w_ hw_
    have c0 := Mine.at hw_ 0 _ rfl
    have c1 := Mine.at hw_ 1 _ rfl
    have c2 := Mine.at hw_ 2 _ rfl
    have cl := Mine.lt hw_
    first | (go_simp; done) | (go_simp; with_reducible rfl) | (go_simp; rw [if_neg (by first | omega | (simp; omega))])
  try simp only [Act.put, List.setIfInBounds_toArray, List.set_cons_zero, List.set_cons_succ]
  try simp only [e1, e1', e2]
  refine q_nil ?_
  intro W_ hC_
  replace M := Aside.mk hC_
  clear hC_ z0 z1 z2 zl
  have z0 := Mine.at M.out 0 _ rfl
  have z1 := Mine.at M.out 1 _ rfl
  have z2 := Mine.at M.out 2 _ rfl
  have zl := Mine.lt M.out
  go_wp2
  go_ret
  exact ⟨rfl, M.out.low⟩
set_option maxHeartbeats 4000000 in
theorem pr_D2 (nt kd oc : ByteArray) (hcon : Lib.containsS [⟨#[]⟩, ⟨#[78]⟩, ⟨#[83]⟩, ⟨#[70]⟩, ⟨#[68]⟩, ⟨#[83, 70]⟩, ⟨#[83, 68]⟩, ⟨#[70, 68]⟩, ⟨#[83, 70, 68]⟩] nt = true) (e1 : (kd.toList == []) = false) (e1' : (kd.toList != []) = true) (e2 : (oc.toList == []) = false) (rty : Pm.typed kd.data.toList = true) (uu : ByteArray) (ru : (⟨(Txt.upper kd.data.toList).toArray⟩ : ByteArray) = uu) (e3 : (uu.toList == kd.toList) = false) (e4 : (uu.toList != kd.toList) = true)  (w : World) (hk : kd.size ≤ 100000) : Calls Tryz.prog 31 #[.agg #[.string nt, .string kd, .string oc]] w fun e w' => e = .returned (.int .i64 2) ∧ Below w.heap.size w w' := by
  have M : Aside (Mine w [(w.heap.size, #[.string nt, .string kd, .string oc], 41)] (w.alloc (.cells #[.string nt, .string kd, .string oc] 41))) := ⟨(Mine.start w).alloc #[.string nt, .string kd, .string oc] 41⟩
  have HC := Lib.hid (show (#[.string ⟨#[]⟩, .string ⟨#[78]⟩, .string ⟨#[83]⟩, .string ⟨#[70]⟩, .string ⟨#[68]⟩, .string ⟨#[83, 70]⟩, .string ⟨#[83, 68]⟩, .string ⟨#[70, 68]⟩, .string ⟨#[83, 70, 68]⟩] : Array Value) = (([⟨#[]⟩, ⟨#[78]⟩, ⟨#[83]⟩, ⟨#[70]⟩, ⟨#[68]⟩, ⟨#[83, 70]⟩, ⟨#[83, 68]⟩, ⟨#[70, 68]⟩, ⟨#[83, 70, 68]⟩] : List ByteArray).map Value.string).toArray from rfl)
  have hty := fun W => refTyped_any kd hk W
  have hup := fun W => refUpper_any kd hk W
  go_enter Tryz.func31, Tryz.ntmps31
  go_wp2_with (first | (go_at_call 68; (with_reducible refine (amongR_fresh nt [⟨#[]⟩, ⟨#[78]⟩, ⟨#[83]⟩, ⟨#[70]⟩, ⟨#[68]⟩, ⟨#[83, 70]⟩, ⟨#[83, 68]⟩, ⟨#[70, 68]⟩, ⟨#[83, 70, 68]⟩] #[.string ⟨#[]⟩, .string ⟨#[78]⟩, .string ⟨#[83]⟩, .string ⟨#[70]⟩, .string ⟨#[68]⟩, .string ⟨#[83, 70]⟩, .string ⟨#[83, 68]⟩, .string ⟨#[70, 68]⟩, .string ⟨#[83, 70, 68]⟩] HC.out 9 (show List.length _ = _ from rfl) (by decide) _ hcon (w.alloc (.cells #[.string nt, .string kd, .string oc] 41)) (w.heap.size + 1) (by simp)).mono ?_); rintro e W1 ⟨rfl, hb⟩; replace M := Aside.mk (M.out.next hb); clear hb; have z0 := Mine.at M.out 0 _ rfl; have z1 := Mine.at M.out 1 _ rfl; have z2 := Mine.at M.out 2 _ rfl; have zl := Mine.lt M.out))
  rw [rty] at hty
  rw [ru] at hup
  clear hcon
  refine region_class (C := (fun w' => Mine w [(w.heap.size, #[.string nt, .string kd, .string oc], 41)] w')) (by kernel_rfl) (by kernel_rfl) (M.out.drewN 1) ?_
  refine q_run ?_ ?_ ?_ ?_
  · kernel_rfl
  rotate_left
  · intro w_ hw_
    have c0 := Mine.at hw_ 0 _ rfl
    have c1 := Mine.at hw_ 1 _ rfl
    have c2 := Mine.at hw_ 2 _ rfl
    have cl := Mine.lt hw_
    first | (go_simp; done) | (go_simp; with_reducible rfl) | (go_simp; rw [if_neg (by first | omega | (simp; omega))])
  try simp only [Act.put, List.setIfInBounds_toArray, List.set_cons_zero, List.set_cons_succ]
  try simp only [e1, e1', e2, e3, e4]
  refine q_run ?_ ?_ ?_ ?_
  · kernel_rfl
  rotate_left
  · intro w_ hw_
    have c0 := Mine.at hw_ 0 _ rfl
    have c1 := Mine.at hw_ 1 _ rfl
    have c2 := Mine.at hw_ 2 _ rfl
    have cl := Mine.lt hw_
    first | (go_simp; done) | (go_simp; with_reducible rfl) | (go_simp; rw [if_neg (by first | omega | (simp; omega))])
  try simp only [Act.put, List.setIfInBounds_toArray, List.set_cons_zero, List.set_cons_succ]
  try simp only [e1, e1', e2, e3, e4]
  refine q_run ?_ ?_ ?_ ?_
  · kernel_rfl
  rotate_left
  · intro w_ hw_
    have c0 := Mine.at hw_ 0 _ rfl
    have c1 := Mine.at hw_ 1 _ rfl
    have c2 := Mine.at hw_ 2 _ rfl
    have cl := Mine.lt hw_
    first | (go_simp; done) | (go_simp; with_reducible rfl) | (go_simp; rw [if_neg (by first | omega | (simp; omega))])
  try simp only [Act.put, List.setIfInBounds_toArray, List.set_cons_zero, List.set_cons_succ]
  try simp only [e1, e1', e2, e3, e4]
  refine q_run ?_ ?_ ?_ ?_
  · kernel_rfl
  rotate_left
  · intro w_ hw_
    have c0 := Mine.at hw_ 0 _ rfl
    have c1 := Mine.at hw_ 1 _ rfl
    have c2 := Mine.at hw_ 2 _ rfl
    have cl := Mine.lt hw_
    first | (go_simp; done) | (go_simp; with_reducible rfl) | (go_simp; rw [if_neg (by first | omega | (simp; omega))])
  try simp only [Act.put, List.setIfInBounds_toArray, List.set_cons_zero, List.set_cons_succ]
  try simp only [e1, e1', e2, e3, e4]
  first
   | (refine q_skip ?_ ?_
      · rfl)
   | (refine q_run ?_ ?_ ?_ ?_
      · kernel_rfl
      rotate_left
      · intro w_ hw_
        have c0 := Mine.at hw_ 0 _ rfl
        have c1 := Mine.at hw_ 1 _ rfl
        have c2 := Mine.at hw_ 2 _ rfl
        have cl := Mine.lt hw_
        first | (go_simp; done) | (go_simp; with_reducible rfl) | (go_simp; rw [if_neg (by first | omega | (simp; omega))]))
  try simp only [Act.put, List.setIfInBounds_toArray, List.set_cons_zero, List.set_cons_succ]
  try simp only [e1, e1', e2, e3, e4]
  first
   | (refine q_skip ?_ ?_
      · rfl)
   | (refine q_run ?_ ?_ ?_ ?_
      · kernel_rfl
      rotate_left
      · intro w_ hw_
        have c0 := Mine.at hw_ 0 _ rfl
        have c1 := Mine.at hw_ 1 _ rfl
        have c2 := Mine.at hw_ 2 _ rfl
        have cl := Mine.lt hw_
        first | (go_simp; done) | (go_simp; with_reducible rfl) | (go_simp; rw [if_neg (by first | omega | (simp; omega))]))
  try simp only [Act.put, List.setIfInBounds_toArray, List.set_cons_zero, List.set_cons_succ]
  try simp only [e1, e1', e2, e3, e4]
  first
   | (refine q_skip ?_ ?_
      · rfl)
   | (refine q_run ?_ ?_ ?_ ?_
      · kernel_rfl
      rotate_left
      · intro w_ hw_
        have c0 := Mine.at hw_ 0 _ rfl
        have c1 := Mine.at hw_ 1 _ rfl
        have c2 := Mine.at hw_ 2 _ rfl
        have cl := Mine.lt hw_
        first | (go_simp; done) | (go_simp; with_reducible rfl) | (go_simp; rw [if_neg (by first | omega | (simp; omega))]))
  try simp only [Act.put, List.setIfInBounds_toArray, List.set_cons_zero, List.set_cons_succ]
  try simp only [e1, e1', e2, e3, e4]
  refine q_run ?_ ?_ ?_ ?_
  · kernel_rfl
  rotate_left
  · intro w_ hw_
    have c0 := Mine.at hw_ 0 _ rfl
    have c1 := Mine.at hw_ 1 _ rfl
    have c2 := Mine.at hw_ 2 _ rfl
    have cl := Mine.lt hw_
    first | (go_simp; done) | (go_simp; with_reducible rfl) | (go_simp; rw [if_neg (by first | omega | (simp; omega))])
  try simp only [Act.put, List.setIfInBounds_toArray, List.set_cons_zero, List.set_cons_succ]
  try simp only [e1, e1', e2, e3, e4]
  refine q_run ?_ ?_ ?_ ?_
  · kernel_rfl
  rotate_left
  · intro w_ hw_
    have c0 := Mine.at hw_ 0 _ rfl
    have c1 := Mine.at hw_ 1 _ rfl
    have c2 := Mine.at hw_ 2 _ rfl
    have cl := Mine.lt hw_
    first | (go_simp; done) | (go_simp; with_reducible rfl) | (go_simp; rw [if_neg (by first | omega | (simp; omega))])
  try simp only [Act.put, List.setIfInBounds_toArray, List.set_cons_zero, List.set_cons_succ]
  try simp only [e1, e1', e2, e3, e4]
  first
   | (refine q_skip ?_ ?_
      · rfl)
   | (refine q_run ?_ ?_ ?_ ?_
      · kernel_rfl
      rotate_left
      · intro w_ hw_
        have c0 := Mine.at hw_ 0 _ rfl
        have c1 := Mine.at hw_ 1 _ rfl
        have c2 := Mine.at hw_ 2 _ rfl
        have cl := Mine.lt hw_
        first | (go_simp; done) | (go_simp; with_reducible rfl) | (go_simp; rw [if_neg (by first | omega | (simp; omega))]))
  try simp only [Act.put, List.setIfInBounds_toArray, List.set_cons_zero, List.set_cons_succ]
  try simp only [e1, e1', e2, e3, e4]
  first
   | (refine q_skip ?_ ?_
      · rfl)
   | (refine q_run ?_ ?_ ?_ ?_
      · kernel_rfl
      rotate_left
      · intro w_ hw_
        have c0 := Mine.at hw_ 0 _ rfl
        have c1 := Mine.at hw_ 1 _ rfl
        have c2 := Mine.at hw_ 2 _ rfl
        have cl := Mine.lt hw_
        first | (go_simp; done) | (go_simp; with_reducible rfl) | (go_simp; rw [if_neg (by first | omega | (simp; omega))]))
  try simp only [Act.put, List.setIfInBounds_toArray, List.set_cons_zero, List.set_cons_succ]
  try simp only [e1, e1', e2, e3, e4]
  first
   | (refine q_skip ?_ ?_
      · rfl)
   | (refine q_run ?_ ?_ ?_ ?_
      · kernel_rfl
      rotate_left
      · intro w_ hw_
        have c0 := Mine.at hw_ 0 _ rfl
        have c1 := Mine.at hw_ 1 _ rfl
        have c2 := Mine.at hw_ 2 _ rfl
        have cl := Mine.lt hw_
        first | (go_simp; done) | (go_simp; with_reducible rfl) | (go_simp; rw [if_neg (by first | omega | (simp; omega))]))
  try simp only [Act.put, List.setIfInBounds_toArray, List.set_cons_zero, List.set_cons_succ]
  try simp only [e1, e1', e2, e3, e4]
  first
   | (refine q_skip ?_ ?_
      · rfl)
   | (refine q_run ?_ ?_ ?_ ?_
      · kernel_rfl
      rotate_left
      · intro w_ hw_
        have c0 := Mine.at hw_ 0 _ rfl
        have c1 := Mine.at hw_ 1 _ rfl
        have c2 := Mine.at hw_ 2 _ rfl
        have cl := Mine.lt hw_
        first | (go_simp; done) | (go_simp; with_reducible rfl) | (go_simp; rw [if_neg (by first | omega | (simp; omega))]))
  try simp only [Act.put, List.setIfInBounds_toArray, List.set_cons_zero, List.set_cons_succ]
  try simp only [e1, e1', e2, e3, e4]
  first
   | (refine q_skip ?_ ?_
      · rfl)
   | (refine q_run ?_ ?_ ?_ ?_
      · kernel_rfl
      rotate_left
      · intro w_ hw_
        have c0 := Mine.at hw_ 0 _ rfl
        have c1 := Mine.at hw_ 1 _ rfl
        have c2 := Mine.at hw_ 2 _ rfl
        have cl := Mine.lt hw_
        first | (go_simp; done) | (go_simp; with_reducible rfl) | (go_simp; rw [if_neg (by first | omega | (simp; omega))]))
  try simp only [Act.put, List.setIfInBounds_toArray, List.set_cons_zero, List.set_cons_succ]
  try simp only [e1, e1', e2, e3, e4]
  first
   | (refine q_skip ?_ ?_
      · rfl)
   | (refine q_run ?_ ?_ ?_ ?_
      · kernel_rfl
      rotate_left
      · intro w_ hw_
        have c0 := Mine.at hw_ 0 _ rfl
        have c1 := Mine.at hw_ 1 _ rfl
        have c2 := Mine.at hw_ 2 _ rfl
        have cl := Mine.lt hw_
        first | (go_simp; done) | (go_simp; with_reducible rfl) | (go_simp; rw [if_neg (by first | omega | (simp; omega))]))
  try simp only [Act.put, List.setIfInBounds_toArray, List.set_cons_zero, List.set_cons_succ]
  try simp only [e1, e1', e2, e3, e4]
  first
   | (refine q_skip ?_ ?_
      · rfl)
   | (refine q_run ?_ ?_ ?_ ?_
      · kernel_rfl
      rotate_left
      · intro w_ hw_
        have c0 := Mine.at hw_ 0 _ rfl
        have c1 := Mine.at hw_ 1 _ rfl
        have c2 := Mine.at hw_ 2 _ rfl
        have cl := Mine.lt hw_
        first | (go_simp; done) | (go_simp; with_reducible rfl) | (go_simp; rw [if_neg (by first | omega | (simp; omega))]))
  try simp only [Act.put, List.setIfInBounds_toArray, List.set_cons_zero, List.set_cons_succ]
  try simp only [e1, e1', e2, e3, e4]
  first
   | (refine q_skip ?_ ?_
      · rfl)
   | (refine q_run ?_ ?_ ?_ ?_
      · kernel_rfl
      rotate_left
      · intro w_ hw_
        have c0 := Mine.at hw_ 0 _ rfl
        have c1 := Mine.at hw_ 1 _ rfl
        have c2 := Mine.at hw_ 2 _ rfl
        have cl := Mine.lt hw_
        first | (go_simp; done) | (go_simp; with_reducible rfl) | (go_simp; rw [if_neg (by first | omega | (simp; omega))]))
  try simp only [Act.put, List.setIfInBounds_toArray, List.set_cons_zero, List.set_cons_succ]
  try simp only [e1, e1', e2, e3, e4]
  refine q_run ?_ ?_ ?_ ?_
  · kernel_rfl
  rotate_left
  · intro w_ hw_
    have c0 := Mine.at hw_ 0 _ rfl
    have c1 := Mine.at hw_ 1 _ rfl
    have c2 := Mine.at hw_ 2 _ rfl
    have cl := Mine.lt hw_
    first | (go_simp; done) | (go_simp; with_reducible rfl) | (go_simp; rw [if_neg (by first | omega | (simp; omega))])
  try simp only [Act.put, List.setIfInBounds_toArray, List.set_cons_zero, List.set_cons_succ]
  try simp only [e1, e1', e2, e3, e4]
  refine q_run ?_ ?_ ?_ ?_
  · kernel_rfl
  rotate_left
  · intro w_ hw_
    have c0 := Mine.at hw_ 0 _ rfl
    have c1 := Mine.at hw_ 1 _ rfl
    have c2 := Mine.at hw_ 2 _ rfl
    have cl := Mine.lt hw_
    first | (go_simp; done) | (go_simp; with_reducible rfl) | (go_simp; rw [if_neg (by first | omega | (simp; omega))])
  try simp only [Act.put, List.setIfInBounds_toArray, List.set_cons_zero, List.set_cons_succ]
  try simp only [e1, e1', e2, e3, e4]
  first
   | (refine q_skip ?_ ?_
      · rfl)
   | (refine q_run ?_ ?_ ?_ ?_
      · kernel_rfl
      rotate_left
      · intro w_ hw_
        have c0 := Mine.at hw_ 0 _ rfl
        have c1 := Mine.at hw_ 1 _ rfl
        have c2 := Mine.at hw_ 2 _ rfl
        have cl := Mine.lt hw_
        first | (go_simp; done) | (go_simp; with_reducible rfl) | (go_simp; rw [if_neg (by first | omega | (simp; omega))]))
  try simp only [Act.put, List.setIfInBounds_toArray, List.set_cons_zero, List.set_cons_succ]
  try simp only [e1, e1', e2, e3, e4]
  first
   | (refine q_skip ?_ ?_
      · rfl)
   | (refine q_run ?_ ?_ ?_ ?_
      · kernel_rfl
      rotate_left
      · intro w_ hw_
        have c0 := Mine.at hw_ 0 _ rfl
        have c1 := Mine.at hw_ 1 _ rfl
        have c2 := Mine.at hw_ 2 _ rfl
        have cl := Mine.lt hw_
        first | (go_simp; done) | (go_simp; with_reducible rfl) | (go_simp; rw [if_neg (by first | omega | (simp; omega))]))
  try simp only [Act.put, List.setIfInBounds_toArray, List.set_cons_zero, List.set_cons_succ]
  try simp only [e1, e1', e2, e3, e4]
  first
   | (refine q_skip ?_ ?_
      · rfl)
   | (refine q_run ?_ ?_ ?_ ?_
      · kernel_rfl
      rotate_left
      · intro w_ hw_
        have c0 := Mine.at hw_ 0 _ rfl
        have c1 := Mine.at hw_ 1 _ rfl
        have c2 := Mine.at hw_ 2 _ rfl
        have cl := Mine.lt hw_
        first | (go_simp; done) | (go_simp; with_reducible rfl) | (go_simp; rw [if_neg (by first | omega | (simp; omega))]))
  try simp only [Act.put, List.setIfInBounds_toArray, List.set_cons_zero, List.set_cons_succ]
  try simp only [e1, e1', e2, e3, e4]
  first
   | (refine q_skip ?_ ?_
      · rfl)
   | (refine q_run ?_ ?_ ?_ ?_
      · kernel_rfl
      rotate_left
      · intro w_ hw_
        have c0 := Mine.at hw_ 0 _ rfl
        have c1 := Mine.at hw_ 1 _ rfl
        have c2 := Mine.at hw_ 2 _ rfl
        have cl := Mine.lt hw_
        first | (go_simp; done) | (go_simp; with_reducible rfl) | (go_simp; rw [if_neg (by first | omega | (simp; omega))]))
  try simp only [Act.put, List.setIfInBounds_toArray, List.set_cons_zero, List.set_cons_succ]
  try simp only [e1, e1', e2, e3, e4]
  first
   | (refine q_skip ?_ ?_
      · rfl)
   | (refine q_run ?_ ?_ ?_ ?_
      · kernel_rfl
      rotate_left
      · intro w_ hw_
        have c0 := Mine.at hw_ 0 _ rfl
        have c1 := Mine.at hw_ 1 _ rfl
        have c2 := Mine.at hw_ 2 _ rfl
        have cl := Mine.lt hw_
        first | (go_simp; done) | (go_simp; with_reducible rfl) | (go_simp; rw [if_neg (by first | omega | (simp; omega))]))
  try simp only [Act.put, List.setIfInBounds_toArray, List.set_cons_zero, List.set_cons_succ]
  try simp only [e1, e1', e2, e3, e4]
  first
   | (refine q_skip ?_ ?_
      · rfl)
   | (refine q_run ?_ ?_ ?_ ?_
      · kernel_rfl
      rotate_left
      · intro w_ hw_
        have c0 := Mine.at hw_ 0 _ rfl
        have c1 := Mine.at hw_ 1 _ rfl
        have c2 := Mine.at hw_ 2 _ rfl
        have cl := Mine.lt hw_
        first | (go_simp; done) | (go_simp; with_reducible rfl) | (go_simp; rw [if_neg (by first | omega | (simp; omega))]))
  try simp only [Act.put, List.setIfInBounds_toArray, List.set_cons_zero, List.set_cons_succ]
  try simp only [e1, e1', e2, e3, e4]
  first
   | (refine q_skip ?_ ?_
      · rfl)
   | (refine q_call ?_ (.bool true) ?_ ?_ ?_ ?_ ?_
      · kernel_rfl
      rotate_left 2
      · intro w_ hw_
        go_simp
        refine ⟨?_, ?_⟩ <;> with_reducible rfl
      · intro w_ hw_
        have c0 := Mine.at hw_ 0 _ rfl
        have c1 := Mine.at hw_ 1 _ rfl
        have c2 := Mine.at hw_ 2 _ rfl
        have cl := Mine.lt hw_
        exact (hty _).mono fun _ _ ⟨h1_, h2_⟩ => ⟨h1_, hw_.next h2_⟩)
  try simp only [Act.put, List.setIfInBounds_toArray, List.set_cons_zero, List.set_cons_succ]
  try simp only [e1, e1', e2, e3, e4]
  first
   | (refine q_skip ?_ ?_
      · rfl)
   | (refine q_run ?_ ?_ ?_ ?_
      · kernel_rfl
      rotate_left
      · intro w_ hw_
        have c0 := Mine.at hw_ 0 _ rfl
        have c1 := Mine.at hw_ 1 _ rfl
        have c2 := Mine.at hw_ 2 _ rfl
        have cl := Mine.lt hw_
        first | (go_simp; done) | (go_simp; with_reducible rfl) | (go_simp; rw [if_neg (by first | omega | (simp; omega))]))
  try simp only [Act.put, List.setIfInBounds_toArray, List.set_cons_zero, List.set_cons_succ]
  try simp only [e1, e1', e2, e3, e4]
  first
   | (refine q_skip ?_ ?_
      · rfl)
   | (refine q_run ?_ ?_ ?_ ?_
      · kernel_rfl
      rotate_left
      · intro w_ hw_
        have c0 := Mine.at hw_ 0 _ rfl
        have c1 := Mine.at hw_ 1 _ rfl
        have c2 := Mine.at hw_ 2 _ rfl
        have cl := Mine.lt hw_
        first | (go_simp; done) | (go_simp; with_reducible rfl) | (go_simp; rw [if_neg (by first | omega | (simp; omega))]))
  try simp only [Act.put, List.setIfInBounds_toArray, List.set_cons_zero, List.set_cons_succ]
  try simp only [e1, e1', e2, e3, e4]
  first
   | (refine q_skip ?_ ?_
      · rfl)
   | (refine q_run ?_ ?_ ?_ ?_
      · kernel_rfl
      rotate_left
      · intro w_ hw_
        have c0 := Mine.at hw_ 0 _ rfl
        have c1 := Mine.at hw_ 1 _ rfl
        have c2 := Mine.at hw_ 2 _ rfl
        have cl := Mine.lt hw_
        first | (go_simp; done) | (go_simp; with_reducible rfl) | (go_simp; rw [if_neg (by first | omega | (simp; omega))]))
  try simp only [Act.put, List.setIfInBounds_toArray, List.set_cons_zero, List.set_cons_succ]
  try simp only [e1, e1', e2, e3, e4]
  first
   | (refine q_skip ?_ ?_
      · rfl)
   | (refine q_run ?_ ?_ ?_ ?_
      · kernel_rfl
      rotate_left
      · intro w_ hw_
        have c0 := Mine.at hw_ 0 _ rfl
        have c1 := Mine.at hw_ 1 _ rfl
        have c2 := Mine.at hw_ 2 _ rfl
        have cl := Mine.lt hw_
        first | (go_simp; done) | (go_simp; with_reducible rfl) | (go_simp; rw [if_neg (by first | omega | (simp; omega))]))
  try simp only [Act.put, List.setIfInBounds_toArray, List.set_cons_zero, List.set_cons_succ]
  try simp only [e1, e1', e2, e3, e4]
  first
   | (refine q_skip ?_ ?_
      · rfl)
   | (refine q_call ?_ (.string uu) ?_ ?_ ?_ ?_ ?_
      · kernel_rfl
      rotate_left 2
      · intro w_ hw_
        go_simp
        refine ⟨?_, ?_⟩ <;> with_reducible rfl
      · intro w_ hw_
        have c0 := Mine.at hw_ 0 _ rfl
        have c1 := Mine.at hw_ 1 _ rfl
        have c2 := Mine.at hw_ 2 _ rfl
        have cl := Mine.lt hw_
        exact (hup _).mono fun _ _ ⟨h1_, h2_⟩ => ⟨h1_, hw_.next h2_⟩)
  try simp only [Act.put, List.setIfInBounds_toArray, List.set_cons_zero, List.set_cons_succ]
  try simp only [e1, e1', e2, e3, e4]
  first
   | (refine q_skip ?_ ?_
      · rfl)
   | (refine q_run ?_ ?_ ?_ ?_
      · kernel_rfl
      rotate_left
      · intro w_ hw_
        have c0 := Mine.at hw_ 0 _ rfl
        have c1 := Mine.at hw_ 1 _ rfl
        have c2 := Mine.at hw_ 2 _ rfl
        have cl := Mine.lt hw_
        first | (go_simp; done) | (go_simp; with_reducible rfl) | (go_simp; rw [if_neg (by first | omega | (simp; omega))]))
  try simp only [Act.put, List.setIfInBounds_toArray, List.set_cons_zero, List.set_cons_succ]
  try simp only [e1, e1', e2, e3, e4]
  first
   | (refine q_skip ?_ ?_
      · rfl)
   | (refine q_run ?_ ?_ ?_ ?_
      · kernel_rfl
      rotate_left
      · intro w_ hw_
        have c0 := Mine.at hw_ 0 _ rfl
        have c1 := Mine.at hw_ 1 _ rfl
        have c2 := Mine.at hw_ 2 _ rfl
        have cl := Mine.lt hw_
        first | (go_simp; done) | (go_simp; with_reducible rfl) | (go_simp; rw [if_neg (by first | omega | (simp; omega))]))
  try simp only [Act.put, List.setIfInBounds_toArray, List.set_cons_zero, List.set_cons_succ]
  try simp only [e1, e1', e2, e3, e4]
  first
   | (refine q_skip ?_ ?_
      · rfl)
   | (refine q_run ?_ ?_ ?_ ?_
      · kernel_rfl
      rotate_left
      · intro w_ hw_
        have c0 := Mine.at hw_ 0 _ rfl
        have c1 := Mine.at hw_ 1 _ rfl
        have c2 := Mine.at hw_ 2 _ rfl
        have cl := Mine.lt hw_
        first | (go_simp; done) | (go_simp; with_reducible rfl) | (go_simp; rw [if_neg (by first | omega | (simp; omega))]))
  try simp only [Act.put, List.setIfInBounds_toArray, List.set_cons_zero, List.set_cons_succ]
  try simp only [e1, e1', e2, e3, e4]
  first
   | (refine q_skip ?_ ?_
      · rfl)
   | (refine q_run ?_ ?_ ?_ ?_
      · kernel_rfl
      rotate_left
      · intro w_ hw_
        have c0 := Mine.at hw_ 0 _ rfl
        have c1 := Mine.at hw_ 1 _ rfl
        have c2 := Mine.at hw_ 2 _ rfl
        have cl := Mine.lt hw_
        first | (go_simp; done) | (go_simp; with_reducible rfl) | (go_simp; rw [if_neg (by first | omega | (simp; omega))]))
  try simp only [Act.put, List.setIfInBounds_toArray, List.set_cons_zero, List.set_cons_succ]
  try simp only [e1, e1', e2, e3, e4]
  first
   | (refine q_skip ?_ ?_
      · rfl)
   | (refine q_run ?_ ?_ ?_ ?_
      · kernel_rfl
      rotate_left
      · intro w_ hw_
        have c0 := Mine.at hw_ 0 _ rfl
        have c1 := Mine.at hw_ 1 _ rfl
        have c2 := Mine.at hw_ 2 _ rfl
        have cl := Mine.lt hw_
        first | (go_simp; done) | (go_simp; with_reducible rfl) | (go_simp; rw [if_neg (by first | omega | (simp; omega))]))
  try simp only [Act.put, List.setIfInBounds_toArray, List.set_cons_zero, List.set_cons_succ]
  try simp only [e1, e1', e2, e3, e4]
  refine q_run ?_ ?_ ?_ ?_
  · kernel_rfl
  rotate_left
  · intro w_ hw_
    have c0 := Mine.at hw_ 0 _ rfl
    have c1 := Mine.at hw_ 1 _ rfl
    have c2 := Mine.at hw_ 2 _ rfl
    have cl := Mine.lt hw_
    first | (go_simp; done) | (go_simp; with_reducible rfl) | (go_simp; rw [if_neg (by first | omega | (simp; omega))])
  try simp only [Act.put, List.setIfInBounds_toArray, List.set_cons_zero, List.set_cons_succ]
  try simp only [e1, e1', e2, e3, e4]
  refine q_nil ?_
  intro W_ hC_
  replace M := Aside.mk hC_
  clear hC_ z0 z1 z2 zl
  have z0 := Mine.at M.out 0 _ rfl
  have z1 := Mine.at M.out 1 _ rfl
  have z2 := Mine.at M.out 2 _ rfl
  have zl := Mine.lt M.out
  go_wp2
  go_ret
  exact ⟨rfl, M.out.low⟩
theorem refRightRcpt_any (nt kd oc : ByteArray) (w : World) (hk : kd.size ≤ 100000) : Calls Tryz.prog 31 #[.agg #[.string nt, .string kd, .string oc]] w fun e w' => e = .returned (.int .i64 (Pm.rightRcpt nt kd oc)) ∧ Below w.heap.size w w' := by
  cases hcon : Lib.containsS [⟨#[]⟩, ⟨#[78]⟩, ⟨#[83]⟩, ⟨#[70]⟩, ⟨#[68]⟩, ⟨#[83, 70]⟩, ⟨#[83, 68]⟩, ⟨#[70, 68]⟩, ⟨#[83, 70, 68]⟩] nt with
  | false => rw [show Pm.rightRcpt nt kd oc = 2 by unfold Pm.rightRcpt; rw [if_pos hcon]]; exact pr_A nt kd oc hcon w hk
  | true =>
    have hn : ¬ (Lib.containsS [⟨#[]⟩, ⟨#[78]⟩, ⟨#[83]⟩, ⟨#[70]⟩, ⟨#[68]⟩, ⟨#[83, 70]⟩, ⟨#[83, 68]⟩, ⟨#[70, 68]⟩, ⟨#[83, 70, 68]⟩] nt = false) := by rw [hcon]; simp
    cases e1 : (kd.toList == []) with
    | true =>
      have e1' : (kd.toList != []) = false := by simp only [bne, e1]; rfl
      cases e2 : (oc.toList == []) with
      | false => rw [show Pm.rightRcpt nt kd oc = 2 by unfold Pm.rightRcpt; rw [if_neg hn, if_pos (by simp [Pm.empty, e1, e2])]]; exact pr_B1 nt kd oc hcon e1 e1' e2 w hk
      | true =>
        have hq : ¬ ((Pm.empty kd != Pm.empty oc) = true ∨ (Pm.empty kd = false ∧ (Pm.typed kd.data.toList = false ∨ (⟨(Txt.upper kd.data.toList).toArray⟩ : ByteArray) ≠ kd))) := by simp [Pm.empty, e1, e2]
        by_cases hz : (256 : Int) < (oc.size : Int)
        · rw [show Pm.rightRcpt nt kd oc = 3 by unfold Pm.rightRcpt; rw [if_neg hn, if_neg hq, if_pos hz]]; exact pr_Cs nt kd oc hcon e1 e1' e2 hz w hk
        · rw [show Pm.rightRcpt nt kd oc = 0 by unfold Pm.rightRcpt; rw [if_neg hn, if_neg hq, if_neg hz]]; exact pr_Co nt kd oc hcon e1 e1' e2 hz w hk
    | false =>
      have e1' : (kd.toList != []) = true := by simp only [bne, e1]; rfl
      cases e2 : (oc.toList == []) with
      | true => rw [show Pm.rightRcpt nt kd oc = 2 by unfold Pm.rightRcpt; rw [if_neg hn, if_pos (by simp [Pm.empty, e1, e2])]]; exact pr_B2 nt kd oc hcon e1 e1' e2 w hk
      | false =>
        cases rty : Pm.typed kd.data.toList with
        | false => rw [show Pm.rightRcpt nt kd oc = 2 by unfold Pm.rightRcpt; rw [if_neg hn, if_pos (.inr ⟨e1, .inl rty⟩)]]; exact pr_D1 nt kd oc hcon e1 e1' e2 rty w hk
        | true =>
          cases e3 : ((⟨(Txt.upper kd.data.toList).toArray⟩ : ByteArray).toList == kd.toList) with
          | false =>
            have hne : (⟨(Txt.upper kd.data.toList).toArray⟩ : ByteArray) ≠ kd := fun q => by rw [q] at e3; simp at e3
            rw [show Pm.rightRcpt nt kd oc = 2 by unfold Pm.rightRcpt; rw [if_neg hn, if_pos (.inr ⟨e1, .inr hne⟩)]]
            exact pr_D2 nt kd oc hcon e1 e1' e2 rty _ rfl e3 (by simp only [bne, e3]; rfl) w hk
          | true =>
            have heq := text_eq e3
            have hq : ¬ ((Pm.empty kd != Pm.empty oc) = true ∨ (Pm.empty kd = false ∧ (Pm.typed kd.data.toList = false ∨ (⟨(Txt.upper kd.data.toList).toArray⟩ : ByteArray) ≠ kd))) := by
              rintro (q | ⟨_, q | q⟩)
              · simp [Pm.empty, e1, e2] at q
              · rw [rty] at q; cases q
              · exact q heq
            have e4 : ((⟨(Txt.upper kd.data.toList).toArray⟩ : ByteArray).toList != kd.toList) = false := by simp only [bne, e3]; rfl
            by_cases hz : (256 : Int) < (oc.size : Int)
            · rw [show Pm.rightRcpt nt kd oc = 3 by unfold Pm.rightRcpt; rw [if_neg hn, if_neg hq, if_pos hz]]; exact pr_Ds nt kd oc hcon e1 e1' e2 rty _ rfl e3 e4 hz w hk
            · rw [show Pm.rightRcpt nt kd oc = 0 by unfold Pm.rightRcpt; rw [if_neg hn, if_neg hq, if_neg hz]]; exact pr_Do nt kd oc hcon e1 e1' e2 rty _ rfl e3 e4 hz w hk
end Go.Proofs.YtfffdbjfhdkheaaGreatDoor
