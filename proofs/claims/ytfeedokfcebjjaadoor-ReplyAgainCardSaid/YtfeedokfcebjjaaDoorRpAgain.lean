/-
  Walks of the package reply: ReplyAgain.
-/
import Derived.Test.YtfeedokfcebjjaaDoorRpLawC
set_option linter.unusedVariables false
set_option linter.unusedSimpArgs false
namespace Go.Proofs.YtfeedokfcebjjaaDoor
open Go.RowKit
set_option maxRecDepth 100000
attribute [local go_sem] equal3
set_option maxHeartbeats 8000000 in
theorem again_few (A : Option Addr) (m cp : Nat) (t : List ByteArray) (hm : t.length = m) (w : World) (hE : Env w) (hS : Strs w A t) (hl : m ≤ 9223372036854775807) (hs : ∀ s ∈ t, s.size ≤ 9223372036854775807) (hf : Rp.few t = false) :
    Calls Tryd.prog 6 #[.slice A m cp] w fun e w' => e = .returned (.bool true) ∧ Below w.heap.size w w' := by
  have HS := Aside.mk hS
  have Hs := Aside.mk hs
  clear hS hs
  go_enter Tryd.func6, Tryd.ntmps6
  go_wp2_with (first | (go_at_call 8; (with_reducible refine (awake_any _ hE).mono ?_); rintro e w1 ⟨rfl, hb⟩; have K := Aside.mk (((Kp.start w).str HS.out).next hb); clear hb) | (go_at_call 9; (with_reducible refine (few_m _ m cp t hm _ (K.out.textm (by simp)) hl Hs.out false hf).mono ?_); rintro e w' ⟨rfl, hw⟩; have hw' := hw.symm; clear hw; subst hw'))
  go_ret
  exact ⟨rfl, K.out.low⟩
set_option maxHeartbeats 8000000 in
theorem again_bad (A : Option Addr) (m cp : Nat) (t : List ByteArray) (hm : t.length = m) (w : World) (hE : Env w) (hS : Strs w A t) (hl : m ≤ 9223372036854775807) (hs : ∀ s ∈ t, s.size ≤ 9223372036854775807) (hf : Rp.few t = true) (x : Int) (hx : x ≠ 0) (hp : Rp.prs 0 0 t = (x, 0, 0)) :
    Calls Tryd.prog 6 #[.slice A m cp] w fun e w' => e = .returned (.bool true) ∧ Below w.heap.size w w' := by
  have HS := Aside.mk hS
  have Hs := Aside.mk hs
  clear hS hs
  have Hz := Aside.mk (fun s h => Nat.le_trans ((Rp.few_len hf).2 s h) (by decide : 1000 ≤ 1000000))
  have h60 := (Rp.few_len hf).1
  rw [hm] at h60
  go_enter Tryd.func6, Tryd.ntmps6
  go_wp2_with (first | (go_at_call 8; (with_reducible refine (awake_any _ hE).mono ?_); rintro e w1 ⟨rfl, hb⟩; have K := Aside.mk (((Kp.start w).str HS.out).next hb); clear hb) | (go_at_call 9; (with_reducible refine (few_m _ m cp t hm _ (K.out.textm (by simp)) hl Hs.out true hf).mono ?_); rintro e w' ⟨rfl, hw⟩; have hw' := hw.symm; clear hw; subst hw') | (at_builtin; refine app_copy rfl _ _ rfl (W0 := w1) ((Below.refl _ _).alloc (Nat.le_refl _) _) _ 0 0 [] rfl (by rfl) (Row.lit1 (Below.refl _ _)) A m cp (by rfl) t hm ((K.out.alloc _).textm (by simp)) (by omega) m (by omega) t (by simp) ?_; intro A2 c2 w2 hr hs2 hb; replace K := Aside.mk ((K.out.next hb).str hs2); clear hr hs2 hb) | (go_at_call 10; (with_reducible refine (parse_bad_m t _ m _ hm x hp hx _ (hE.next K.out.low) (K.out.textm (by simp)) Hz.out (by omega)).mono ?_); rintro e w3 ⟨rfl, hb⟩; replace K := Aside.mk ((K.out.next hb).blk #[.int .i64 0, .int .i64 0, .int .i64 0, .int .i64 0, .slice none 0 0] 25); clear hb))
  go_ret
  exact ⟨rfl, K.out.low⟩
set_option maxHeartbeats 8000000 in
theorem again_zero (A : Option Addr) (m cp : Nat) (t : List ByteArray) (hm : t.length = m) (w : World) (hE : Env w) (hS : Strs w A t) (hl : m ≤ 9223372036854775807) (hs : ∀ s ∈ t, s.size ≤ 9223372036854775807) (hf : Rp.few t = true) (n : Nat) (c f1 f2 f3 : Int) (xs : List ByteArray) (hp : Rp.prs 0 0 t = (0, n, c)) (hb0 : Rp.body c ((t.take n).map Rp.say) = ((f1, f2, f3), xs)) (n1 : 1 ≤ n) (n2 : n ≤ 32) (nm : n ≤ m) (hx : xs.length = n) (hxs : ∀ s ∈ xs, s.size ≤ 1000000) (c1 : 200 ≤ c) (c2 : c ≤ 599) (f20 : 0 ≤ f2) (f21 : f2 ≤ 999) (f30 : 0 ≤ f3) (f31 : f3 ≤ 999) (f10 : 0 ≤ f1) (f11 : f1 ≤ 5) (k1 : decide (Rp.cls c < 2) = false) (k2 : decide (5 < Rp.cls c) = false) (hr : Rp.right c f1 f2 f3 xs = 3 ∨ (Rp.right c f1 f2 f3 xs = 0 ∧ ∃ ll, Rp.prn c f1 f2 f3 xs = ll ∧ ll.length = n ∧ Rp.prs 0 0 ll = (0, n, c) ∧ Rp.body c ((ll.take n).map Rp.say) = ((f1, f2, f3), xs) ∧ ∀ s ∈ ll, s.size ≤ 1000000)) (k3 : (f1 != 0) = false) :
    Calls Tryd.prog 6 #[.slice A m cp] w fun e w' => e = .returned (.bool true) ∧ Below w.heap.size w w' := by
  have HS := Aside.mk hS
  have Hs := Aside.mk hs
  clear hS hs
  have Hz := Aside.mk (fun s h => Nat.le_trans ((Rp.few_len hf).2 s h) (by decide : 1000 ≤ 1000000))
  have h60 := (Rp.few_len hf).1
  rw [hm] at h60
  have HX := Aside.mk hxs
  clear hxs
  have e1 : decide ((n : Int) < 1) = false := decide_eq_false (by omega)
  have e2 : decide (m < n) = false := decide_eq_false (by omega)
  have e3 : ((n : Int) != n) = false := by simp
  go_enter Tryd.func6, Tryd.ntmps6
  go_wp2_with (first | (go_at_call 8; (with_reducible refine (awake_any _ hE).mono ?_); rintro e w1 ⟨rfl, hb⟩; have K := Aside.mk (((Kp.start w).str HS.out).next hb); clear hb) | (go_at_call 9; (with_reducible refine (few_m _ m cp t hm _ (K.out.textm (by simp)) hl Hs.out true hf).mono ?_); rintro e w' ⟨rfl, hw⟩; have hw' := hw.symm; clear hw; subst hw') | (at_builtin; refine app_copy rfl _ _ rfl (W0 := w1) ((Below.refl _ _).alloc (Nat.le_refl _) _) _ 0 0 [] rfl (by rfl) (Row.lit1 (Below.refl _ _)) A m cp (by rfl) t hm ((K.out.alloc _).textm (by simp)) (by omega) m (by omega) t (by simp) ?_; intro A2 c2 w2 hr hs2 hb; replace K := Aside.mk ((K.out.next hb).str hs2); clear hr hs2 hb) | (go_at_call 10; (with_reducible refine (parse_good_m t _ m _ hm n c f1 f2 f3 xs hp hb0 _ (hE.next K.out.low) (K.out.textm (by simp)) Hz.out (by omega)).mono ?_); rintro e w3 ⟨A3, c3, rfl, hs3, hb⟩; replace K := Aside.mk (((K.out.next hb).str hs3).blk #[.int .i64 c, .int .i64 f1, .int .i64 f2, .int .i64 f3, .slice A3 n c3] 25); clear hb hs3))
  refine region_class (C := (fun w' => Kp w [(w3.heap.size, #[.int .i64 c, .int .i64 f1, .int .i64 f2, .int .i64 f3, .slice A3 n c3], 25)] [(A3, xs), (A2, t), (A, t)] w')) (by kernel_rfl) (by kernel_rfl) K.out.drew ?_
  refine q_run ?_ ?_ ?_ ?_
  · kernel_rfl
  rotate_left
  · intro w_ hw_
    have c0 := Blk.cell (hw_.own _ (List.mem_cons_self ..)) 0 _ rfl
    have c1 := Blk.cell (hw_.own _ (List.mem_cons_self ..)) 1 _ rfl
    have c2 := Blk.cell (hw_.own _ (List.mem_cons_self ..)) 2 _ rfl
    have c3 := Blk.cell (hw_.own _ (List.mem_cons_self ..)) 3 _ rfl
    have c4 := Blk.cell (hw_.own _ (List.mem_cons_self ..)) 4 _ rfl
    have cl := Blk.lt (hw_.own _ (List.mem_cons_self ..))
    first | (go_simp; done) | (go_simp; with_reducible rfl) | (go_simp; rw [if_neg (by first | omega | (simp; omega))])
  try simp only [Act.put, List.setIfInBounds_toArray, List.set_cons_zero, List.set_cons_succ]
  try simp only [e1, e2, e3, k1, k2, k3]
  refine q_run ?_ ?_ ?_ ?_
  · kernel_rfl
  rotate_left
  · intro w_ hw_
    have c0 := Blk.cell (hw_.own _ (List.mem_cons_self ..)) 0 _ rfl
    have c1 := Blk.cell (hw_.own _ (List.mem_cons_self ..)) 1 _ rfl
    have c2 := Blk.cell (hw_.own _ (List.mem_cons_self ..)) 2 _ rfl
    have c3 := Blk.cell (hw_.own _ (List.mem_cons_self ..)) 3 _ rfl
    have c4 := Blk.cell (hw_.own _ (List.mem_cons_self ..)) 4 _ rfl
    have cl := Blk.lt (hw_.own _ (List.mem_cons_self ..))
    first | (go_simp; done) | (go_simp; with_reducible rfl) | (go_simp; rw [if_neg (by first | omega | (simp; omega))])
  try simp only [Act.put, List.setIfInBounds_toArray, List.set_cons_zero, List.set_cons_succ]
  try simp only [e1, e2, e3, k1, k2, k3]
  refine q_run ?_ ?_ ?_ ?_
  · kernel_rfl
  rotate_left
  · intro w_ hw_
    have c0 := Blk.cell (hw_.own _ (List.mem_cons_self ..)) 0 _ rfl
    have c1 := Blk.cell (hw_.own _ (List.mem_cons_self ..)) 1 _ rfl
    have c2 := Blk.cell (hw_.own _ (List.mem_cons_self ..)) 2 _ rfl
    have c3 := Blk.cell (hw_.own _ (List.mem_cons_self ..)) 3 _ rfl
    have c4 := Blk.cell (hw_.own _ (List.mem_cons_self ..)) 4 _ rfl
    have cl := Blk.lt (hw_.own _ (List.mem_cons_self ..))
    first | (go_simp; done) | (go_simp; with_reducible rfl) | (go_simp; rw [if_neg (by first | omega | (simp; omega))])
  try simp only [Act.put, List.setIfInBounds_toArray, List.set_cons_zero, List.set_cons_succ]
  try simp only [e1, e2, e3, k1, k2, k3]
  first
   | (refine q_skip ?_ ?_
      · rfl)
   | (refine q_run ?_ ?_ ?_ ?_
      · kernel_rfl
      rotate_left
      · intro w_ hw_
        have c0 := Blk.cell (hw_.own _ (List.mem_cons_self ..)) 0 _ rfl
        have c1 := Blk.cell (hw_.own _ (List.mem_cons_self ..)) 1 _ rfl
        have c2 := Blk.cell (hw_.own _ (List.mem_cons_self ..)) 2 _ rfl
        have c3 := Blk.cell (hw_.own _ (List.mem_cons_self ..)) 3 _ rfl
        have c4 := Blk.cell (hw_.own _ (List.mem_cons_self ..)) 4 _ rfl
        have cl := Blk.lt (hw_.own _ (List.mem_cons_self ..))
        first | (go_simp; done) | (go_simp; with_reducible rfl) | (go_simp; rw [if_neg (by first | omega | (simp; omega))]))
  try simp only [Act.put, List.setIfInBounds_toArray, List.set_cons_zero, List.set_cons_succ]
  try simp only [e1, e2, e3, k1, k2, k3]
  first
   | (refine q_skip ?_ ?_
      · rfl)
   | (refine q_run ?_ ?_ ?_ ?_
      · kernel_rfl
      rotate_left
      · intro w_ hw_
        have c0 := Blk.cell (hw_.own _ (List.mem_cons_self ..)) 0 _ rfl
        have c1 := Blk.cell (hw_.own _ (List.mem_cons_self ..)) 1 _ rfl
        have c2 := Blk.cell (hw_.own _ (List.mem_cons_self ..)) 2 _ rfl
        have c3 := Blk.cell (hw_.own _ (List.mem_cons_self ..)) 3 _ rfl
        have c4 := Blk.cell (hw_.own _ (List.mem_cons_self ..)) 4 _ rfl
        have cl := Blk.lt (hw_.own _ (List.mem_cons_self ..))
        first | (go_simp; done) | (go_simp; with_reducible rfl) | (go_simp; rw [if_neg (by first | omega | (simp; omega))]))
  try simp only [Act.put, List.setIfInBounds_toArray, List.set_cons_zero, List.set_cons_succ]
  try simp only [e1, e2, e3, k1, k2, k3]
  first
   | (refine q_skip ?_ ?_
      · rfl)
   | (refine q_run ?_ ?_ ?_ ?_
      · kernel_rfl
      rotate_left
      · intro w_ hw_
        have c0 := Blk.cell (hw_.own _ (List.mem_cons_self ..)) 0 _ rfl
        have c1 := Blk.cell (hw_.own _ (List.mem_cons_self ..)) 1 _ rfl
        have c2 := Blk.cell (hw_.own _ (List.mem_cons_self ..)) 2 _ rfl
        have c3 := Blk.cell (hw_.own _ (List.mem_cons_self ..)) 3 _ rfl
        have c4 := Blk.cell (hw_.own _ (List.mem_cons_self ..)) 4 _ rfl
        have cl := Blk.lt (hw_.own _ (List.mem_cons_self ..))
        first | (go_simp; done) | (go_simp; with_reducible rfl) | (go_simp; rw [if_neg (by first | omega | (simp; omega))]))
  try simp only [Act.put, List.setIfInBounds_toArray, List.set_cons_zero, List.set_cons_succ]
  try simp only [e1, e2, e3, k1, k2, k3]
  first
   | (refine q_skip ?_ ?_
      · rfl)
   | (refine q_run ?_ ?_ ?_ ?_
      · kernel_rfl
      rotate_left
      · intro w_ hw_
        have c0 := Blk.cell (hw_.own _ (List.mem_cons_self ..)) 0 _ rfl
        have c1 := Blk.cell (hw_.own _ (List.mem_cons_self ..)) 1 _ rfl
        have c2 := Blk.cell (hw_.own _ (List.mem_cons_self ..)) 2 _ rfl
        have c3 := Blk.cell (hw_.own _ (List.mem_cons_self ..)) 3 _ rfl
        have c4 := Blk.cell (hw_.own _ (List.mem_cons_self ..)) 4 _ rfl
        have cl := Blk.lt (hw_.own _ (List.mem_cons_self ..))
        first | (go_simp; done) | (go_simp; with_reducible rfl) | (go_simp; rw [if_neg (by first | omega | (simp; omega))]))
  try simp only [Act.put, List.setIfInBounds_toArray, List.set_cons_zero, List.set_cons_succ]
  try simp only [e1, e2, e3, k1, k2, k3]
  refine q_run ?_ ?_ ?_ ?_
  · kernel_rfl
  rotate_left
  · intro w_ hw_
    have c0 := Blk.cell (hw_.own _ (List.mem_cons_self ..)) 0 _ rfl
    have c1 := Blk.cell (hw_.own _ (List.mem_cons_self ..)) 1 _ rfl
    have c2 := Blk.cell (hw_.own _ (List.mem_cons_self ..)) 2 _ rfl
    have c3 := Blk.cell (hw_.own _ (List.mem_cons_self ..)) 3 _ rfl
    have c4 := Blk.cell (hw_.own _ (List.mem_cons_self ..)) 4 _ rfl
    have cl := Blk.lt (hw_.own _ (List.mem_cons_self ..))
    first | (go_simp; done) | (go_simp; with_reducible rfl) | (go_simp; rw [if_neg (by first | omega | (simp; omega))])
  try simp only [Act.put, List.setIfInBounds_toArray, List.set_cons_zero, List.set_cons_succ]
  try simp only [e1, e2, e3, k1, k2, k3]
  refine q_run ?_ ?_ ?_ ?_
  · kernel_rfl
  rotate_left
  · intro w_ hw_
    have c0 := Blk.cell (hw_.own _ (List.mem_cons_self ..)) 0 _ rfl
    have c1 := Blk.cell (hw_.own _ (List.mem_cons_self ..)) 1 _ rfl
    have c2 := Blk.cell (hw_.own _ (List.mem_cons_self ..)) 2 _ rfl
    have c3 := Blk.cell (hw_.own _ (List.mem_cons_self ..)) 3 _ rfl
    have c4 := Blk.cell (hw_.own _ (List.mem_cons_self ..)) 4 _ rfl
    have cl := Blk.lt (hw_.own _ (List.mem_cons_self ..))
    first | (go_simp; done) | (go_simp; with_reducible rfl) | (go_simp; rw [if_neg (by first | omega | (simp; omega))])
  try simp only [Act.put, List.setIfInBounds_toArray, List.set_cons_zero, List.set_cons_succ]
  try simp only [e1, e2, e3, k1, k2, k3]
  first
   | (refine q_skip ?_ ?_
      · rfl)
   | (refine q_run ?_ ?_ ?_ ?_
      · kernel_rfl
      rotate_left
      · intro w_ hw_
        have c0 := Blk.cell (hw_.own _ (List.mem_cons_self ..)) 0 _ rfl
        have c1 := Blk.cell (hw_.own _ (List.mem_cons_self ..)) 1 _ rfl
        have c2 := Blk.cell (hw_.own _ (List.mem_cons_self ..)) 2 _ rfl
        have c3 := Blk.cell (hw_.own _ (List.mem_cons_self ..)) 3 _ rfl
        have c4 := Blk.cell (hw_.own _ (List.mem_cons_self ..)) 4 _ rfl
        have cl := Blk.lt (hw_.own _ (List.mem_cons_self ..))
        first | (go_simp; done) | (go_simp; with_reducible rfl) | (go_simp; rw [if_neg (by first | omega | (simp; omega))]))
  try simp only [Act.put, List.setIfInBounds_toArray, List.set_cons_zero, List.set_cons_succ]
  try simp only [e1, e2, e3, k1, k2, k3]
  first
   | (refine q_skip ?_ ?_
      · rfl)
   | (refine q_run ?_ ?_ ?_ ?_
      · kernel_rfl
      rotate_left
      · intro w_ hw_
        have c0 := Blk.cell (hw_.own _ (List.mem_cons_self ..)) 0 _ rfl
        have c1 := Blk.cell (hw_.own _ (List.mem_cons_self ..)) 1 _ rfl
        have c2 := Blk.cell (hw_.own _ (List.mem_cons_self ..)) 2 _ rfl
        have c3 := Blk.cell (hw_.own _ (List.mem_cons_self ..)) 3 _ rfl
        have c4 := Blk.cell (hw_.own _ (List.mem_cons_self ..)) 4 _ rfl
        have cl := Blk.lt (hw_.own _ (List.mem_cons_self ..))
        first | (go_simp; done) | (go_simp; with_reducible rfl) | (go_simp; rw [if_neg (by first | omega | (simp; omega))]))
  try simp only [Act.put, List.setIfInBounds_toArray, List.set_cons_zero, List.set_cons_succ]
  try simp only [e1, e2, e3, k1, k2, k3]
  first
   | (refine q_skip ?_ ?_
      · rfl)
   | (refine q_run ?_ ?_ ?_ ?_
      · kernel_rfl
      rotate_left
      · intro w_ hw_
        have c0 := Blk.cell (hw_.own _ (List.mem_cons_self ..)) 0 _ rfl
        have c1 := Blk.cell (hw_.own _ (List.mem_cons_self ..)) 1 _ rfl
        have c2 := Blk.cell (hw_.own _ (List.mem_cons_self ..)) 2 _ rfl
        have c3 := Blk.cell (hw_.own _ (List.mem_cons_self ..)) 3 _ rfl
        have c4 := Blk.cell (hw_.own _ (List.mem_cons_self ..)) 4 _ rfl
        have cl := Blk.lt (hw_.own _ (List.mem_cons_self ..))
        first | (go_simp; done) | (go_simp; with_reducible rfl) | (go_simp; rw [if_neg (by first | omega | (simp; omega))]))
  try simp only [Act.put, List.setIfInBounds_toArray, List.set_cons_zero, List.set_cons_succ]
  try simp only [e1, e2, e3, k1, k2, k3]
  first
   | (refine q_skip ?_ ?_
      · rfl)
   | (refine q_run ?_ ?_ ?_ ?_
      · kernel_rfl
      rotate_left
      · intro w_ hw_
        have c0 := Blk.cell (hw_.own _ (List.mem_cons_self ..)) 0 _ rfl
        have c1 := Blk.cell (hw_.own _ (List.mem_cons_self ..)) 1 _ rfl
        have c2 := Blk.cell (hw_.own _ (List.mem_cons_self ..)) 2 _ rfl
        have c3 := Blk.cell (hw_.own _ (List.mem_cons_self ..)) 3 _ rfl
        have c4 := Blk.cell (hw_.own _ (List.mem_cons_self ..)) 4 _ rfl
        have cl := Blk.lt (hw_.own _ (List.mem_cons_self ..))
        first | (go_simp; done) | (go_simp; with_reducible rfl) | (go_simp; rw [if_neg (by first | omega | (simp; omega))]))
  try simp only [Act.put, List.setIfInBounds_toArray, List.set_cons_zero, List.set_cons_succ]
  try simp only [e1, e2, e3, k1, k2, k3]
  first
   | (refine q_skip ?_ ?_
      · rfl)
   | (refine q_run ?_ ?_ ?_ ?_
      · kernel_rfl
      rotate_left
      · intro w_ hw_
        have c0 := Blk.cell (hw_.own _ (List.mem_cons_self ..)) 0 _ rfl
        have c1 := Blk.cell (hw_.own _ (List.mem_cons_self ..)) 1 _ rfl
        have c2 := Blk.cell (hw_.own _ (List.mem_cons_self ..)) 2 _ rfl
        have c3 := Blk.cell (hw_.own _ (List.mem_cons_self ..)) 3 _ rfl
        have c4 := Blk.cell (hw_.own _ (List.mem_cons_self ..)) 4 _ rfl
        have cl := Blk.lt (hw_.own _ (List.mem_cons_self ..))
        first | (go_simp; done) | (go_simp; with_reducible rfl) | (go_simp; rw [if_neg (by first | omega | (simp; omega))]))
  try simp only [Act.put, List.setIfInBounds_toArray, List.set_cons_zero, List.set_cons_succ]
  try simp only [e1, e2, e3, k1, k2, k3]
  refine q_run ?_ ?_ ?_ ?_
  · kernel_rfl
  rotate_left
  · intro w_ hw_
    have c0 := Blk.cell (hw_.own _ (List.mem_cons_self ..)) 0 _ rfl
    have c1 := Blk.cell (hw_.own _ (List.mem_cons_self ..)) 1 _ rfl
    have c2 := Blk.cell (hw_.own _ (List.mem_cons_self ..)) 2 _ rfl
    have c3 := Blk.cell (hw_.own _ (List.mem_cons_self ..)) 3 _ rfl
    have c4 := Blk.cell (hw_.own _ (List.mem_cons_self ..)) 4 _ rfl
    have cl := Blk.lt (hw_.own _ (List.mem_cons_self ..))
    first | (go_simp; done) | (go_simp; with_reducible rfl) | (go_simp; rw [if_neg (by first | omega | (simp; omega))])
  try simp only [Act.put, List.setIfInBounds_toArray, List.set_cons_zero, List.set_cons_succ]
  try simp only [e1, e2, e3, k1, k2, k3]
  refine q_run ?_ ?_ ?_ ?_
  · kernel_rfl
  rotate_left
  · intro w_ hw_
    have c0 := Blk.cell (hw_.own _ (List.mem_cons_self ..)) 0 _ rfl
    have c1 := Blk.cell (hw_.own _ (List.mem_cons_self ..)) 1 _ rfl
    have c2 := Blk.cell (hw_.own _ (List.mem_cons_self ..)) 2 _ rfl
    have c3 := Blk.cell (hw_.own _ (List.mem_cons_self ..)) 3 _ rfl
    have c4 := Blk.cell (hw_.own _ (List.mem_cons_self ..)) 4 _ rfl
    have cl := Blk.lt (hw_.own _ (List.mem_cons_self ..))
    first | (go_simp; done) | (go_simp; with_reducible rfl) | (go_simp; rw [if_neg (by first | omega | (simp; omega))])
  try simp only [Act.put, List.setIfInBounds_toArray, List.set_cons_zero, List.set_cons_succ]
  try simp only [e1, e2, e3, k1, k2, k3]
  first
   | (refine q_skip ?_ ?_
      · rfl)
   | (refine q_run ?_ ?_ ?_ ?_
      · kernel_rfl
      rotate_left
      · intro w_ hw_
        have c0 := Blk.cell (hw_.own _ (List.mem_cons_self ..)) 0 _ rfl
        have c1 := Blk.cell (hw_.own _ (List.mem_cons_self ..)) 1 _ rfl
        have c2 := Blk.cell (hw_.own _ (List.mem_cons_self ..)) 2 _ rfl
        have c3 := Blk.cell (hw_.own _ (List.mem_cons_self ..)) 3 _ rfl
        have c4 := Blk.cell (hw_.own _ (List.mem_cons_self ..)) 4 _ rfl
        have cl := Blk.lt (hw_.own _ (List.mem_cons_self ..))
        first | (go_simp; done) | (go_simp; with_reducible rfl) | (go_simp; rw [if_neg (by first | omega | (simp; omega))]))
  try simp only [Act.put, List.setIfInBounds_toArray, List.set_cons_zero, List.set_cons_succ]
  try simp only [e1, e2, e3, k1, k2, k3]
  first
   | (refine q_skip ?_ ?_
      · rfl)
   | (refine q_run ?_ ?_ ?_ ?_
      · kernel_rfl
      rotate_left
      · intro w_ hw_
        have c0 := Blk.cell (hw_.own _ (List.mem_cons_self ..)) 0 _ rfl
        have c1 := Blk.cell (hw_.own _ (List.mem_cons_self ..)) 1 _ rfl
        have c2 := Blk.cell (hw_.own _ (List.mem_cons_self ..)) 2 _ rfl
        have c3 := Blk.cell (hw_.own _ (List.mem_cons_self ..)) 3 _ rfl
        have c4 := Blk.cell (hw_.own _ (List.mem_cons_self ..)) 4 _ rfl
        have cl := Blk.lt (hw_.own _ (List.mem_cons_self ..))
        first | (go_simp; done) | (go_simp; with_reducible rfl) | (go_simp; rw [if_neg (by first | omega | (simp; omega))]))
  try simp only [Act.put, List.setIfInBounds_toArray, List.set_cons_zero, List.set_cons_succ]
  try simp only [e1, e2, e3, k1, k2, k3]
  first
   | (refine q_skip ?_ ?_
      · rfl)
   | (refine q_call ?_ (.int .i64 (Rp.cls c)) ?_ ?_ ?_ ?_ ?_
      · kernel_rfl
      rotate_left 2
      · intro w_ hw_
        go_simp
        refine ⟨?_, ?_⟩ <;> with_reducible rfl
      · intro w_ hw_
        have c0 := Blk.cell (hw_.own _ (List.mem_cons_self ..)) 0 _ rfl
        have c1 := Blk.cell (hw_.own _ (List.mem_cons_self ..)) 1 _ rfl
        have c2 := Blk.cell (hw_.own _ (List.mem_cons_self ..)) 2 _ rfl
        have c3 := Blk.cell (hw_.own _ (List.mem_cons_self ..)) 3 _ rfl
        have c4 := Blk.cell (hw_.own _ (List.mem_cons_self ..)) 4 _ rfl
        have cl := Blk.lt (hw_.own _ (List.mem_cons_self ..))
        exact (class_any _ _).mono fun _ _ ⟨h1_, h2_⟩ => ⟨h1_, h2_ ▸ hw_⟩)
  try simp only [Act.put, List.setIfInBounds_toArray, List.set_cons_zero, List.set_cons_succ]
  try simp only [e1, e2, e3, k1, k2, k3]
  first
   | (refine q_skip ?_ ?_
      · rfl)
   | (refine q_run ?_ ?_ ?_ ?_
      · kernel_rfl
      rotate_left
      · intro w_ hw_
        have c0 := Blk.cell (hw_.own _ (List.mem_cons_self ..)) 0 _ rfl
        have c1 := Blk.cell (hw_.own _ (List.mem_cons_self ..)) 1 _ rfl
        have c2 := Blk.cell (hw_.own _ (List.mem_cons_self ..)) 2 _ rfl
        have c3 := Blk.cell (hw_.own _ (List.mem_cons_self ..)) 3 _ rfl
        have c4 := Blk.cell (hw_.own _ (List.mem_cons_self ..)) 4 _ rfl
        have cl := Blk.lt (hw_.own _ (List.mem_cons_self ..))
        first | (go_simp; done) | (go_simp; with_reducible rfl) | (go_simp; rw [if_neg (by first | omega | (simp; omega))]))
  try simp only [Act.put, List.setIfInBounds_toArray, List.set_cons_zero, List.set_cons_succ]
  try simp only [e1, e2, e3, k1, k2, k3]
  refine q_run ?_ ?_ ?_ ?_
  · kernel_rfl
  rotate_left
  · intro w_ hw_
    have c0 := Blk.cell (hw_.own _ (List.mem_cons_self ..)) 0 _ rfl
    have c1 := Blk.cell (hw_.own _ (List.mem_cons_self ..)) 1 _ rfl
    have c2 := Blk.cell (hw_.own _ (List.mem_cons_self ..)) 2 _ rfl
    have c3 := Blk.cell (hw_.own _ (List.mem_cons_self ..)) 3 _ rfl
    have c4 := Blk.cell (hw_.own _ (List.mem_cons_self ..)) 4 _ rfl
    have cl := Blk.lt (hw_.own _ (List.mem_cons_self ..))
    first | (go_simp; done) | (go_simp; with_reducible rfl) | (go_simp; rw [if_neg (by first | omega | (simp; omega))])
  try simp only [Act.put, List.setIfInBounds_toArray, List.set_cons_zero, List.set_cons_succ]
  try simp only [e1, e2, e3, k1, k2, k3]
  refine q_run ?_ ?_ ?_ ?_
  · kernel_rfl
  rotate_left
  · intro w_ hw_
    have c0 := Blk.cell (hw_.own _ (List.mem_cons_self ..)) 0 _ rfl
    have c1 := Blk.cell (hw_.own _ (List.mem_cons_self ..)) 1 _ rfl
    have c2 := Blk.cell (hw_.own _ (List.mem_cons_self ..)) 2 _ rfl
    have c3 := Blk.cell (hw_.own _ (List.mem_cons_self ..)) 3 _ rfl
    have c4 := Blk.cell (hw_.own _ (List.mem_cons_self ..)) 4 _ rfl
    have cl := Blk.lt (hw_.own _ (List.mem_cons_self ..))
    first | (go_simp; done) | (go_simp; with_reducible rfl) | (go_simp; rw [if_neg (by first | omega | (simp; omega))])
  try simp only [Act.put, List.setIfInBounds_toArray, List.set_cons_zero, List.set_cons_succ]
  try simp only [e1, e2, e3, k1, k2, k3]
  first
   | (refine q_skip ?_ ?_
      · rfl)
   | (refine q_run ?_ ?_ ?_ ?_
      · kernel_rfl
      rotate_left
      · intro w_ hw_
        have c0 := Blk.cell (hw_.own _ (List.mem_cons_self ..)) 0 _ rfl
        have c1 := Blk.cell (hw_.own _ (List.mem_cons_self ..)) 1 _ rfl
        have c2 := Blk.cell (hw_.own _ (List.mem_cons_self ..)) 2 _ rfl
        have c3 := Blk.cell (hw_.own _ (List.mem_cons_self ..)) 3 _ rfl
        have c4 := Blk.cell (hw_.own _ (List.mem_cons_self ..)) 4 _ rfl
        have cl := Blk.lt (hw_.own _ (List.mem_cons_self ..))
        first | (go_simp; done) | (go_simp; with_reducible rfl) | (go_simp; rw [if_neg (by first | omega | (simp; omega))]))
  try simp only [Act.put, List.setIfInBounds_toArray, List.set_cons_zero, List.set_cons_succ]
  try simp only [e1, e2, e3, k1, k2, k3]
  first
   | (refine q_skip ?_ ?_
      · rfl)
   | (refine q_run ?_ ?_ ?_ ?_
      · kernel_rfl
      rotate_left
      · intro w_ hw_
        have c0 := Blk.cell (hw_.own _ (List.mem_cons_self ..)) 0 _ rfl
        have c1 := Blk.cell (hw_.own _ (List.mem_cons_self ..)) 1 _ rfl
        have c2 := Blk.cell (hw_.own _ (List.mem_cons_self ..)) 2 _ rfl
        have c3 := Blk.cell (hw_.own _ (List.mem_cons_self ..)) 3 _ rfl
        have c4 := Blk.cell (hw_.own _ (List.mem_cons_self ..)) 4 _ rfl
        have cl := Blk.lt (hw_.own _ (List.mem_cons_self ..))
        first | (go_simp; done) | (go_simp; with_reducible rfl) | (go_simp; rw [if_neg (by first | omega | (simp; omega))]))
  try simp only [Act.put, List.setIfInBounds_toArray, List.set_cons_zero, List.set_cons_succ]
  try simp only [e1, e2, e3, k1, k2, k3]
  first
   | (refine q_skip ?_ ?_
      · rfl)
   | (refine q_call ?_ (.int .i64 (Rp.cls c)) ?_ ?_ ?_ ?_ ?_
      · kernel_rfl
      rotate_left 2
      · intro w_ hw_
        go_simp
        refine ⟨?_, ?_⟩ <;> with_reducible rfl
      · intro w_ hw_
        have c0 := Blk.cell (hw_.own _ (List.mem_cons_self ..)) 0 _ rfl
        have c1 := Blk.cell (hw_.own _ (List.mem_cons_self ..)) 1 _ rfl
        have c2 := Blk.cell (hw_.own _ (List.mem_cons_self ..)) 2 _ rfl
        have c3 := Blk.cell (hw_.own _ (List.mem_cons_self ..)) 3 _ rfl
        have c4 := Blk.cell (hw_.own _ (List.mem_cons_self ..)) 4 _ rfl
        have cl := Blk.lt (hw_.own _ (List.mem_cons_self ..))
        exact (class_any _ _).mono fun _ _ ⟨h1_, h2_⟩ => ⟨h1_, h2_ ▸ hw_⟩)
  try simp only [Act.put, List.setIfInBounds_toArray, List.set_cons_zero, List.set_cons_succ]
  try simp only [e1, e2, e3, k1, k2, k3]
  first
   | (refine q_skip ?_ ?_
      · rfl)
   | (refine q_run ?_ ?_ ?_ ?_
      · kernel_rfl
      rotate_left
      · intro w_ hw_
        have c0 := Blk.cell (hw_.own _ (List.mem_cons_self ..)) 0 _ rfl
        have c1 := Blk.cell (hw_.own _ (List.mem_cons_self ..)) 1 _ rfl
        have c2 := Blk.cell (hw_.own _ (List.mem_cons_self ..)) 2 _ rfl
        have c3 := Blk.cell (hw_.own _ (List.mem_cons_self ..)) 3 _ rfl
        have c4 := Blk.cell (hw_.own _ (List.mem_cons_self ..)) 4 _ rfl
        have cl := Blk.lt (hw_.own _ (List.mem_cons_self ..))
        first | (go_simp; done) | (go_simp; with_reducible rfl) | (go_simp; rw [if_neg (by first | omega | (simp; omega))]))
  try simp only [Act.put, List.setIfInBounds_toArray, List.set_cons_zero, List.set_cons_succ]
  try simp only [e1, e2, e3, k1, k2, k3]
  refine q_run ?_ ?_ ?_ ?_
  · kernel_rfl
  rotate_left
  · intro w_ hw_
    have c0 := Blk.cell (hw_.own _ (List.mem_cons_self ..)) 0 _ rfl
    have c1 := Blk.cell (hw_.own _ (List.mem_cons_self ..)) 1 _ rfl
    have c2 := Blk.cell (hw_.own _ (List.mem_cons_self ..)) 2 _ rfl
    have c3 := Blk.cell (hw_.own _ (List.mem_cons_self ..)) 3 _ rfl
    have c4 := Blk.cell (hw_.own _ (List.mem_cons_self ..)) 4 _ rfl
    have cl := Blk.lt (hw_.own _ (List.mem_cons_self ..))
    first | (go_simp; done) | (go_simp; with_reducible rfl) | (go_simp; rw [if_neg (by first | omega | (simp; omega))])
  try simp only [Act.put, List.setIfInBounds_toArray, List.set_cons_zero, List.set_cons_succ]
  try simp only [e1, e2, e3, k1, k2, k3]
  refine q_run ?_ ?_ ?_ ?_
  · kernel_rfl
  rotate_left
  · intro w_ hw_
    have c0 := Blk.cell (hw_.own _ (List.mem_cons_self ..)) 0 _ rfl
    have c1 := Blk.cell (hw_.own _ (List.mem_cons_self ..)) 1 _ rfl
    have c2 := Blk.cell (hw_.own _ (List.mem_cons_self ..)) 2 _ rfl
    have c3 := Blk.cell (hw_.own _ (List.mem_cons_self ..)) 3 _ rfl
    have c4 := Blk.cell (hw_.own _ (List.mem_cons_self ..)) 4 _ rfl
    have cl := Blk.lt (hw_.own _ (List.mem_cons_self ..))
    first | (go_simp; done) | (go_simp; with_reducible rfl) | (go_simp; rw [if_neg (by first | omega | (simp; omega))])
  try simp only [Act.put, List.setIfInBounds_toArray, List.set_cons_zero, List.set_cons_succ]
  try simp only [e1, e2, e3, k1, k2, k3]
  first
   | (refine q_skip ?_ ?_
      · rfl)
   | (refine q_run ?_ ?_ ?_ ?_
      · kernel_rfl
      rotate_left
      · intro w_ hw_
        have c0 := Blk.cell (hw_.own _ (List.mem_cons_self ..)) 0 _ rfl
        have c1 := Blk.cell (hw_.own _ (List.mem_cons_self ..)) 1 _ rfl
        have c2 := Blk.cell (hw_.own _ (List.mem_cons_self ..)) 2 _ rfl
        have c3 := Blk.cell (hw_.own _ (List.mem_cons_self ..)) 3 _ rfl
        have c4 := Blk.cell (hw_.own _ (List.mem_cons_self ..)) 4 _ rfl
        have cl := Blk.lt (hw_.own _ (List.mem_cons_self ..))
        first | (go_simp; done) | (go_simp; with_reducible rfl) | (go_simp; rw [if_neg (by first | omega | (simp; omega))]))
  try simp only [Act.put, List.setIfInBounds_toArray, List.set_cons_zero, List.set_cons_succ]
  try simp only [e1, e2, e3, k1, k2, k3]
  first
   | (refine q_skip ?_ ?_
      · rfl)
   | (refine q_run ?_ ?_ ?_ ?_
      · kernel_rfl
      rotate_left
      · intro w_ hw_
        have c0 := Blk.cell (hw_.own _ (List.mem_cons_self ..)) 0 _ rfl
        have c1 := Blk.cell (hw_.own _ (List.mem_cons_self ..)) 1 _ rfl
        have c2 := Blk.cell (hw_.own _ (List.mem_cons_self ..)) 2 _ rfl
        have c3 := Blk.cell (hw_.own _ (List.mem_cons_self ..)) 3 _ rfl
        have c4 := Blk.cell (hw_.own _ (List.mem_cons_self ..)) 4 _ rfl
        have cl := Blk.lt (hw_.own _ (List.mem_cons_self ..))
        first | (go_simp; done) | (go_simp; with_reducible rfl) | (go_simp; rw [if_neg (by first | omega | (simp; omega))]))
  try simp only [Act.put, List.setIfInBounds_toArray, List.set_cons_zero, List.set_cons_succ]
  try simp only [e1, e2, e3, k1, k2, k3]
  first
   | (refine q_skip ?_ ?_
      · rfl)
   | (refine q_run ?_ ?_ ?_ ?_
      · kernel_rfl
      rotate_left
      · intro w_ hw_
        have c0 := Blk.cell (hw_.own _ (List.mem_cons_self ..)) 0 _ rfl
        have c1 := Blk.cell (hw_.own _ (List.mem_cons_self ..)) 1 _ rfl
        have c2 := Blk.cell (hw_.own _ (List.mem_cons_self ..)) 2 _ rfl
        have c3 := Blk.cell (hw_.own _ (List.mem_cons_self ..)) 3 _ rfl
        have c4 := Blk.cell (hw_.own _ (List.mem_cons_self ..)) 4 _ rfl
        have cl := Blk.lt (hw_.own _ (List.mem_cons_self ..))
        first | (go_simp; done) | (go_simp; with_reducible rfl) | (go_simp; rw [if_neg (by first | omega | (simp; omega))]))
  try simp only [Act.put, List.setIfInBounds_toArray, List.set_cons_zero, List.set_cons_succ]
  try simp only [e1, e2, e3, k1, k2, k3]
  first
   | (refine q_skip ?_ ?_
      · rfl)
   | (refine q_run ?_ ?_ ?_ ?_
      · kernel_rfl
      rotate_left
      · intro w_ hw_
        have c0 := Blk.cell (hw_.own _ (List.mem_cons_self ..)) 0 _ rfl
        have c1 := Blk.cell (hw_.own _ (List.mem_cons_self ..)) 1 _ rfl
        have c2 := Blk.cell (hw_.own _ (List.mem_cons_self ..)) 2 _ rfl
        have c3 := Blk.cell (hw_.own _ (List.mem_cons_self ..)) 3 _ rfl
        have c4 := Blk.cell (hw_.own _ (List.mem_cons_self ..)) 4 _ rfl
        have cl := Blk.lt (hw_.own _ (List.mem_cons_self ..))
        first | (go_simp; done) | (go_simp; with_reducible rfl) | (go_simp; rw [if_neg (by first | omega | (simp; omega))]))
  try simp only [Act.put, List.setIfInBounds_toArray, List.set_cons_zero, List.set_cons_succ]
  try simp only [e1, e2, e3, k1, k2, k3]
  first
   | (refine q_skip ?_ ?_
      · rfl)
   | (refine q_run ?_ ?_ ?_ ?_
      · kernel_rfl
      rotate_left
      · intro w_ hw_
        have c0 := Blk.cell (hw_.own _ (List.mem_cons_self ..)) 0 _ rfl
        have c1 := Blk.cell (hw_.own _ (List.mem_cons_self ..)) 1 _ rfl
        have c2 := Blk.cell (hw_.own _ (List.mem_cons_self ..)) 2 _ rfl
        have c3 := Blk.cell (hw_.own _ (List.mem_cons_self ..)) 3 _ rfl
        have c4 := Blk.cell (hw_.own _ (List.mem_cons_self ..)) 4 _ rfl
        have cl := Blk.lt (hw_.own _ (List.mem_cons_self ..))
        first | (go_simp; done) | (go_simp; with_reducible rfl) | (go_simp; rw [if_neg (by first | omega | (simp; omega))]))
  try simp only [Act.put, List.setIfInBounds_toArray, List.set_cons_zero, List.set_cons_succ]
  try simp only [e1, e2, e3, k1, k2, k3]
  first
   | (refine q_skip ?_ ?_
      · rfl)
   | (refine q_run ?_ ?_ ?_ ?_
      · kernel_rfl
      rotate_left
      · intro w_ hw_
        have c0 := Blk.cell (hw_.own _ (List.mem_cons_self ..)) 0 _ rfl
        have c1 := Blk.cell (hw_.own _ (List.mem_cons_self ..)) 1 _ rfl
        have c2 := Blk.cell (hw_.own _ (List.mem_cons_self ..)) 2 _ rfl
        have c3 := Blk.cell (hw_.own _ (List.mem_cons_self ..)) 3 _ rfl
        have c4 := Blk.cell (hw_.own _ (List.mem_cons_self ..)) 4 _ rfl
        have cl := Blk.lt (hw_.own _ (List.mem_cons_self ..))
        first | (go_simp; done) | (go_simp; with_reducible rfl) | (go_simp; rw [if_neg (by first | omega | (simp; omega))]))
  try simp only [Act.put, List.setIfInBounds_toArray, List.set_cons_zero, List.set_cons_succ]
  try simp only [e1, e2, e3, k1, k2, k3]
  first
   | (refine q_skip ?_ ?_
      · rfl)
   | (refine q_run ?_ ?_ ?_ ?_
      · kernel_rfl
      rotate_left
      · intro w_ hw_
        have c0 := Blk.cell (hw_.own _ (List.mem_cons_self ..)) 0 _ rfl
        have c1 := Blk.cell (hw_.own _ (List.mem_cons_self ..)) 1 _ rfl
        have c2 := Blk.cell (hw_.own _ (List.mem_cons_self ..)) 2 _ rfl
        have c3 := Blk.cell (hw_.own _ (List.mem_cons_self ..)) 3 _ rfl
        have c4 := Blk.cell (hw_.own _ (List.mem_cons_self ..)) 4 _ rfl
        have cl := Blk.lt (hw_.own _ (List.mem_cons_self ..))
        first | (go_simp; done) | (go_simp; with_reducible rfl) | (go_simp; rw [if_neg (by first | omega | (simp; omega))]))
  try simp only [Act.put, List.setIfInBounds_toArray, List.set_cons_zero, List.set_cons_succ]
  try simp only [e1, e2, e3, k1, k2, k3]
  first
   | (refine q_skip ?_ ?_
      · rfl)
   | (refine q_run ?_ ?_ ?_ ?_
      · kernel_rfl
      rotate_left
      · intro w_ hw_
        have c0 := Blk.cell (hw_.own _ (List.mem_cons_self ..)) 0 _ rfl
        have c1 := Blk.cell (hw_.own _ (List.mem_cons_self ..)) 1 _ rfl
        have c2 := Blk.cell (hw_.own _ (List.mem_cons_self ..)) 2 _ rfl
        have c3 := Blk.cell (hw_.own _ (List.mem_cons_self ..)) 3 _ rfl
        have c4 := Blk.cell (hw_.own _ (List.mem_cons_self ..)) 4 _ rfl
        have cl := Blk.lt (hw_.own _ (List.mem_cons_self ..))
        first | (go_simp; done) | (go_simp; with_reducible rfl) | (go_simp; rw [if_neg (by first | omega | (simp; omega))]))
  try simp only [Act.put, List.setIfInBounds_toArray, List.set_cons_zero, List.set_cons_succ]
  try simp only [e1, e2, e3, k1, k2, k3]
  first
   | (refine q_skip ?_ ?_
      · rfl)
   | (refine q_run ?_ ?_ ?_ ?_
      · kernel_rfl
      rotate_left
      · intro w_ hw_
        have c0 := Blk.cell (hw_.own _ (List.mem_cons_self ..)) 0 _ rfl
        have c1 := Blk.cell (hw_.own _ (List.mem_cons_self ..)) 1 _ rfl
        have c2 := Blk.cell (hw_.own _ (List.mem_cons_self ..)) 2 _ rfl
        have c3 := Blk.cell (hw_.own _ (List.mem_cons_self ..)) 3 _ rfl
        have c4 := Blk.cell (hw_.own _ (List.mem_cons_self ..)) 4 _ rfl
        have cl := Blk.lt (hw_.own _ (List.mem_cons_self ..))
        first | (go_simp; done) | (go_simp; with_reducible rfl) | (go_simp; rw [if_neg (by first | omega | (simp; omega))]))
  try simp only [Act.put, List.setIfInBounds_toArray, List.set_cons_zero, List.set_cons_succ]
  try simp only [e1, e2, e3, k1, k2, k3]
  first
   | (refine q_skip ?_ ?_
      · rfl)
   | (refine q_run ?_ ?_ ?_ ?_
      · kernel_rfl
      rotate_left
      · intro w_ hw_
        have c0 := Blk.cell (hw_.own _ (List.mem_cons_self ..)) 0 _ rfl
        have c1 := Blk.cell (hw_.own _ (List.mem_cons_self ..)) 1 _ rfl
        have c2 := Blk.cell (hw_.own _ (List.mem_cons_self ..)) 2 _ rfl
        have c3 := Blk.cell (hw_.own _ (List.mem_cons_self ..)) 3 _ rfl
        have c4 := Blk.cell (hw_.own _ (List.mem_cons_self ..)) 4 _ rfl
        have cl := Blk.lt (hw_.own _ (List.mem_cons_self ..))
        first | (go_simp; done) | (go_simp; with_reducible rfl) | (go_simp; rw [if_neg (by first | omega | (simp; omega))]))
  try simp only [Act.put, List.setIfInBounds_toArray, List.set_cons_zero, List.set_cons_succ]
  try simp only [e1, e2, e3, k1, k2, k3]
  first
   | (refine q_skip ?_ ?_
      · rfl)
   | (refine q_call ?_ (.int .i64 (Rp.cls c)) ?_ ?_ ?_ ?_ ?_
      · kernel_rfl
      rotate_left 2
      · intro w_ hw_
        go_simp
        refine ⟨?_, ?_⟩ <;> with_reducible rfl
      · intro w_ hw_
        have c0 := Blk.cell (hw_.own _ (List.mem_cons_self ..)) 0 _ rfl
        have c1 := Blk.cell (hw_.own _ (List.mem_cons_self ..)) 1 _ rfl
        have c2 := Blk.cell (hw_.own _ (List.mem_cons_self ..)) 2 _ rfl
        have c3 := Blk.cell (hw_.own _ (List.mem_cons_self ..)) 3 _ rfl
        have c4 := Blk.cell (hw_.own _ (List.mem_cons_self ..)) 4 _ rfl
        have cl := Blk.lt (hw_.own _ (List.mem_cons_self ..))
        exact (class_any _ _).mono fun _ _ ⟨h1_, h2_⟩ => ⟨h1_, h2_ ▸ hw_⟩)
  try simp only [Act.put, List.setIfInBounds_toArray, List.set_cons_zero, List.set_cons_succ]
  try simp only [e1, e2, e3, k1, k2, k3]
  first
   | (refine q_skip ?_ ?_
      · rfl)
   | (refine q_run ?_ ?_ ?_ ?_
      · kernel_rfl
      rotate_left
      · intro w_ hw_
        have c0 := Blk.cell (hw_.own _ (List.mem_cons_self ..)) 0 _ rfl
        have c1 := Blk.cell (hw_.own _ (List.mem_cons_self ..)) 1 _ rfl
        have c2 := Blk.cell (hw_.own _ (List.mem_cons_self ..)) 2 _ rfl
        have c3 := Blk.cell (hw_.own _ (List.mem_cons_self ..)) 3 _ rfl
        have c4 := Blk.cell (hw_.own _ (List.mem_cons_self ..)) 4 _ rfl
        have cl := Blk.lt (hw_.own _ (List.mem_cons_self ..))
        first | (go_simp; done) | (go_simp; with_reducible rfl) | (go_simp; rw [if_neg (by first | omega | (simp; omega))]))
  try simp only [Act.put, List.setIfInBounds_toArray, List.set_cons_zero, List.set_cons_succ]
  try simp only [e1, e2, e3, k1, k2, k3]
  first
   | (refine q_skip ?_ ?_
      · rfl)
   | (refine q_run ?_ ?_ ?_ ?_
      · kernel_rfl
      rotate_left
      · intro w_ hw_
        have c0 := Blk.cell (hw_.own _ (List.mem_cons_self ..)) 0 _ rfl
        have c1 := Blk.cell (hw_.own _ (List.mem_cons_self ..)) 1 _ rfl
        have c2 := Blk.cell (hw_.own _ (List.mem_cons_self ..)) 2 _ rfl
        have c3 := Blk.cell (hw_.own _ (List.mem_cons_self ..)) 3 _ rfl
        have c4 := Blk.cell (hw_.own _ (List.mem_cons_self ..)) 4 _ rfl
        have cl := Blk.lt (hw_.own _ (List.mem_cons_self ..))
        first | (go_simp; done) | (go_simp; with_reducible rfl) | (go_simp; rw [if_neg (by first | omega | (simp; omega))]))
  try simp only [Act.put, List.setIfInBounds_toArray, List.set_cons_zero, List.set_cons_succ]
  try simp only [e1, e2, e3, k1, k2, k3]
  refine q_run ?_ ?_ ?_ ?_
  · kernel_rfl
  rotate_left
  · intro w_ hw_
    have c0 := Blk.cell (hw_.own _ (List.mem_cons_self ..)) 0 _ rfl
    have c1 := Blk.cell (hw_.own _ (List.mem_cons_self ..)) 1 _ rfl
    have c2 := Blk.cell (hw_.own _ (List.mem_cons_self ..)) 2 _ rfl
    have c3 := Blk.cell (hw_.own _ (List.mem_cons_self ..)) 3 _ rfl
    have c4 := Blk.cell (hw_.own _ (List.mem_cons_self ..)) 4 _ rfl
    have cl := Blk.lt (hw_.own _ (List.mem_cons_self ..))
    first | (go_simp; done) | (go_simp; with_reducible rfl) | (go_simp; rw [if_neg (by first | omega | (simp; omega))])
  try simp only [Act.put, List.setIfInBounds_toArray, List.set_cons_zero, List.set_cons_succ]
  try simp only [e1, e2, e3, k1, k2, k3]
  refine q_nil ?_
  intro W_ hC_
  replace K := Aside.mk hC_
  clear hC_
  have z0 := Blk.cell (K.out.own _ (List.mem_cons_self ..)) 0 _ rfl
  have z1 := Blk.cell (K.out.own _ (List.mem_cons_self ..)) 1 _ rfl
  have z2 := Blk.cell (K.out.own _ (List.mem_cons_self ..)) 2 _ rfl
  have z3 := Blk.cell (K.out.own _ (List.mem_cons_self ..)) 3 _ rfl
  have z4 := Blk.cell (K.out.own _ (List.mem_cons_self ..)) 4 _ rfl
  have zl := Blk.lt (K.out.own _ (List.mem_cons_self ..))
  rcases hr with hr | ⟨hr, ll, hll, hlen, hp2, hb2, hz2⟩
  · go_wp2_with (first | (go_at_call 12; (with_reducible refine (print_bad_m c f1 f2 f3 _ n _ xs hx _ (hE.next K.out.low) (K.out.textm (by simp)) (fun s h => Nat.le_trans (HX.out s h) (by decide)) (by omega) (by omega) (by omega) (by omega) (by omega) (by omega) (by omega) 3 hr (by decide)).mono ?_); rintro e w4 ⟨rfl, hb⟩; replace K := Aside.mk (K.out.next hb); clear hb))
    go_ret
    exact ⟨rfl, K.out.low⟩
  · have Hz2 := Aside.mk hz2
    clear hz2
    go_wp2_with (first | (go_at_call 12; (with_reducible refine (print_ok_m c f1 f2 f3 _ n _ xs hx _ (hE.next K.out.low) (K.out.textm (by simp)) HX.out (by omega) (by omega) (by omega) (by omega) (by omega) (by omega) (by omega) (by omega) (by omega) (by omega) hr).mono ?_); rintro e w4 ⟨A4, c4, rfl, hs4, hb⟩; rw [hll] at hs4; replace K := Aside.mk ((K.out.next hb).str hs4); clear hb hs4; (try clear z0); (try clear z1); (try clear z2); (try clear z3); (try clear z4); (try clear zl); have z0 := Blk.cell (K.out.own _ (List.mem_cons_self ..)) 0 _ rfl; have z1 := Blk.cell (K.out.own _ (List.mem_cons_self ..)) 1 _ rfl; have z2 := Blk.cell (K.out.own _ (List.mem_cons_self ..)) 2 _ rfl; have z3 := Blk.cell (K.out.own _ (List.mem_cons_self ..)) 3 _ rfl; have z4 := Blk.cell (K.out.own _ (List.mem_cons_self ..)) 4 _ rfl; have zl := Blk.lt (K.out.own _ (List.mem_cons_self ..))) | (go_at_call 10; (with_reducible refine (parse_good_m ll _ n _ hlen n c f1 f2 f3 xs hp2 hb2 _ (hE.next K.out.low) (K.out.textm (by simp)) Hz2.out (by omega)).mono ?_); rintro e w5 ⟨A5, c5, rfl, hs5, hb⟩; replace K := Aside.mk ((K.out.next hb).str hs5); clear hb hs5; (try clear z0); (try clear z1); (try clear z2); (try clear z3); (try clear z4); (try clear zl); have z0 := Blk.cell (K.out.own _ (List.mem_cons_self ..)) 0 _ rfl; have z1 := Blk.cell (K.out.own _ (List.mem_cons_self ..)) 1 _ rfl; have z2 := Blk.cell (K.out.own _ (List.mem_cons_self ..)) 2 _ rfl; have z3 := Blk.cell (K.out.own _ (List.mem_cons_self ..)) 3 _ rfl; have z4 := Blk.cell (K.out.own _ (List.mem_cons_self ..)) 4 _ rfl; have zl := Blk.lt (K.out.own _ (List.mem_cons_self ..)); replace K : Aside (Kp w _ _ (w5.alloc (.cells #[.int .i64 c, .int .i64 f1, .int .i64 f2, .int .i64 f3, .slice A5 n c5] 25))) := ⟨K.out.alloc _⟩) | (go_at_call 14; (with_reducible refine (same_s c f1 f2 f3 _ _ n _ _ xs hx _ (K.out.textm (by simp)) (K.out.textm (by simp)) (by omega)).mono ?_); rintro e w6 ⟨rfl, hb⟩; replace K := Aside.mk (K.out.next hb); clear hb))
    go_ret
    exact ⟨rfl, K.out.low⟩
set_option maxHeartbeats 8000000 in
theorem again_some (A : Option Addr) (m cp : Nat) (t : List ByteArray) (hm : t.length = m) (w : World) (hE : Env w) (hS : Strs w A t) (hl : m ≤ 9223372036854775807) (hs : ∀ s ∈ t, s.size ≤ 9223372036854775807) (hf : Rp.few t = true) (n : Nat) (c f1 f2 f3 : Int) (xs : List ByteArray) (hp : Rp.prs 0 0 t = (0, n, c)) (hb0 : Rp.body c ((t.take n).map Rp.say) = ((f1, f2, f3), xs)) (n1 : 1 ≤ n) (n2 : n ≤ 32) (nm : n ≤ m) (hx : xs.length = n) (hxs : ∀ s ∈ xs, s.size ≤ 1000000) (c1 : 200 ≤ c) (c2 : c ≤ 599) (f20 : 0 ≤ f2) (f21 : f2 ≤ 999) (f30 : 0 ≤ f3) (f31 : f3 ≤ 999) (f10 : 0 ≤ f1) (f11 : f1 ≤ 5) (k1 : decide (Rp.cls c < 2) = false) (k2 : decide (5 < Rp.cls c) = false) (hr : Rp.right c f1 f2 f3 xs = 3 ∨ (Rp.right c f1 f2 f3 xs = 0 ∧ ∃ ll, Rp.prn c f1 f2 f3 xs = ll ∧ ll.length = n ∧ Rp.prs 0 0 ll = (0, n, c) ∧ Rp.body c ((ll.take n).map Rp.say) = ((f1, f2, f3), xs) ∧ ∀ s ∈ ll, s.size ≤ 1000000)) (k3 : (f1 != 0) = true) (k4 : (f1 != Rp.cls c) = false) :
    Calls Tryd.prog 6 #[.slice A m cp] w fun e w' => e = .returned (.bool true) ∧ Below w.heap.size w w' := by
  have HS := Aside.mk hS
  have Hs := Aside.mk hs
  clear hS hs
  have Hz := Aside.mk (fun s h => Nat.le_trans ((Rp.few_len hf).2 s h) (by decide : 1000 ≤ 1000000))
  have h60 := (Rp.few_len hf).1
  rw [hm] at h60
  have HX := Aside.mk hxs
  clear hxs
  have e1 : decide ((n : Int) < 1) = false := decide_eq_false (by omega)
  have e2 : decide (m < n) = false := decide_eq_false (by omega)
  have e3 : ((n : Int) != n) = false := by simp
  go_enter Tryd.func6, Tryd.ntmps6
  go_wp2_with (first | (go_at_call 8; (with_reducible refine (awake_any _ hE).mono ?_); rintro e w1 ⟨rfl, hb⟩; have K := Aside.mk (((Kp.start w).str HS.out).next hb); clear hb) | (go_at_call 9; (with_reducible refine (few_m _ m cp t hm _ (K.out.textm (by simp)) hl Hs.out true hf).mono ?_); rintro e w' ⟨rfl, hw⟩; have hw' := hw.symm; clear hw; subst hw') | (at_builtin; refine app_copy rfl _ _ rfl (W0 := w1) ((Below.refl _ _).alloc (Nat.le_refl _) _) _ 0 0 [] rfl (by rfl) (Row.lit1 (Below.refl _ _)) A m cp (by rfl) t hm ((K.out.alloc _).textm (by simp)) (by omega) m (by omega) t (by simp) ?_; intro A2 c2 w2 hr hs2 hb; replace K := Aside.mk ((K.out.next hb).str hs2); clear hr hs2 hb) | (go_at_call 10; (with_reducible refine (parse_good_m t _ m _ hm n c f1 f2 f3 xs hp hb0 _ (hE.next K.out.low) (K.out.textm (by simp)) Hz.out (by omega)).mono ?_); rintro e w3 ⟨A3, c3, rfl, hs3, hb⟩; replace K := Aside.mk (((K.out.next hb).str hs3).blk #[.int .i64 c, .int .i64 f1, .int .i64 f2, .int .i64 f3, .slice A3 n c3] 25); clear hb hs3))
  refine region_class (C := (fun w' => Kp w [(w3.heap.size, #[.int .i64 c, .int .i64 f1, .int .i64 f2, .int .i64 f3, .slice A3 n c3], 25)] [(A3, xs), (A2, t), (A, t)] w')) (by kernel_rfl) (by kernel_rfl) K.out.drew ?_
  refine q_run ?_ ?_ ?_ ?_
  · kernel_rfl
  rotate_left
  · intro w_ hw_
    have c0 := Blk.cell (hw_.own _ (List.mem_cons_self ..)) 0 _ rfl
    have c1 := Blk.cell (hw_.own _ (List.mem_cons_self ..)) 1 _ rfl
    have c2 := Blk.cell (hw_.own _ (List.mem_cons_self ..)) 2 _ rfl
    have c3 := Blk.cell (hw_.own _ (List.mem_cons_self ..)) 3 _ rfl
    have c4 := Blk.cell (hw_.own _ (List.mem_cons_self ..)) 4 _ rfl
    have cl := Blk.lt (hw_.own _ (List.mem_cons_self ..))
    first | (go_simp; done) | (go_simp; with_reducible rfl) | (go_simp; rw [if_neg (by first | omega | (simp; omega))])
  try simp only [Act.put, List.setIfInBounds_toArray, List.set_cons_zero, List.set_cons_succ]
  try simp only [e1, e2, e3, k1, k2, k3, k4]
  refine q_run ?_ ?_ ?_ ?_
  · kernel_rfl
  rotate_left
  · intro w_ hw_
    have c0 := Blk.cell (hw_.own _ (List.mem_cons_self ..)) 0 _ rfl
    have c1 := Blk.cell (hw_.own _ (List.mem_cons_self ..)) 1 _ rfl
    have c2 := Blk.cell (hw_.own _ (List.mem_cons_self ..)) 2 _ rfl
    have c3 := Blk.cell (hw_.own _ (List.mem_cons_self ..)) 3 _ rfl
    have c4 := Blk.cell (hw_.own _ (List.mem_cons_self ..)) 4 _ rfl
    have cl := Blk.lt (hw_.own _ (List.mem_cons_self ..))
    first | (go_simp; done) | (go_simp; with_reducible rfl) | (go_simp; rw [if_neg (by first | omega | (simp; omega))])
  try simp only [Act.put, List.setIfInBounds_toArray, List.set_cons_zero, List.set_cons_succ]
  try simp only [e1, e2, e3, k1, k2, k3, k4]
  refine q_run ?_ ?_ ?_ ?_
  · kernel_rfl
  rotate_left
  · intro w_ hw_
    have c0 := Blk.cell (hw_.own _ (List.mem_cons_self ..)) 0 _ rfl
    have c1 := Blk.cell (hw_.own _ (List.mem_cons_self ..)) 1 _ rfl
    have c2 := Blk.cell (hw_.own _ (List.mem_cons_self ..)) 2 _ rfl
    have c3 := Blk.cell (hw_.own _ (List.mem_cons_self ..)) 3 _ rfl
    have c4 := Blk.cell (hw_.own _ (List.mem_cons_self ..)) 4 _ rfl
    have cl := Blk.lt (hw_.own _ (List.mem_cons_self ..))
    first | (go_simp; done) | (go_simp; with_reducible rfl) | (go_simp; rw [if_neg (by first | omega | (simp; omega))])
  try simp only [Act.put, List.setIfInBounds_toArray, List.set_cons_zero, List.set_cons_succ]
  try simp only [e1, e2, e3, k1, k2, k3, k4]
  first
   | (refine q_skip ?_ ?_
      · rfl)
   | (refine q_run ?_ ?_ ?_ ?_
      · kernel_rfl
      rotate_left
      · intro w_ hw_
        have c0 := Blk.cell (hw_.own _ (List.mem_cons_self ..)) 0 _ rfl
        have c1 := Blk.cell (hw_.own _ (List.mem_cons_self ..)) 1 _ rfl
        have c2 := Blk.cell (hw_.own _ (List.mem_cons_self ..)) 2 _ rfl
        have c3 := Blk.cell (hw_.own _ (List.mem_cons_self ..)) 3 _ rfl
        have c4 := Blk.cell (hw_.own _ (List.mem_cons_self ..)) 4 _ rfl
        have cl := Blk.lt (hw_.own _ (List.mem_cons_self ..))
        first | (go_simp; done) | (go_simp; with_reducible rfl) | (go_simp; rw [if_neg (by first | omega | (simp; omega))]))
  try simp only [Act.put, List.setIfInBounds_toArray, List.set_cons_zero, List.set_cons_succ]
  try simp only [e1, e2, e3, k1, k2, k3, k4]
  first
   | (refine q_skip ?_ ?_
      · rfl)
   | (refine q_run ?_ ?_ ?_ ?_
      · kernel_rfl
      rotate_left
      · intro w_ hw_
        have c0 := Blk.cell (hw_.own _ (List.mem_cons_self ..)) 0 _ rfl
        have c1 := Blk.cell (hw_.own _ (List.mem_cons_self ..)) 1 _ rfl
        have c2 := Blk.cell (hw_.own _ (List.mem_cons_self ..)) 2 _ rfl
        have c3 := Blk.cell (hw_.own _ (List.mem_cons_self ..)) 3 _ rfl
        have c4 := Blk.cell (hw_.own _ (List.mem_cons_self ..)) 4 _ rfl
        have cl := Blk.lt (hw_.own _ (List.mem_cons_self ..))
        first | (go_simp; done) | (go_simp; with_reducible rfl) | (go_simp; rw [if_neg (by first | omega | (simp; omega))]))
  try simp only [Act.put, List.setIfInBounds_toArray, List.set_cons_zero, List.set_cons_succ]
  try simp only [e1, e2, e3, k1, k2, k3, k4]
  first
   | (refine q_skip ?_ ?_
      · rfl)
   | (refine q_run ?_ ?_ ?_ ?_
      · kernel_rfl
      rotate_left
      · intro w_ hw_
        have c0 := Blk.cell (hw_.own _ (List.mem_cons_self ..)) 0 _ rfl
        have c1 := Blk.cell (hw_.own _ (List.mem_cons_self ..)) 1 _ rfl
        have c2 := Blk.cell (hw_.own _ (List.mem_cons_self ..)) 2 _ rfl
        have c3 := Blk.cell (hw_.own _ (List.mem_cons_self ..)) 3 _ rfl
        have c4 := Blk.cell (hw_.own _ (List.mem_cons_self ..)) 4 _ rfl
        have cl := Blk.lt (hw_.own _ (List.mem_cons_self ..))
        first | (go_simp; done) | (go_simp; with_reducible rfl) | (go_simp; rw [if_neg (by first | omega | (simp; omega))]))
  try simp only [Act.put, List.setIfInBounds_toArray, List.set_cons_zero, List.set_cons_succ]
  try simp only [e1, e2, e3, k1, k2, k3, k4]
  first
   | (refine q_skip ?_ ?_
      · rfl)
   | (refine q_run ?_ ?_ ?_ ?_
      · kernel_rfl
      rotate_left
      · intro w_ hw_
        have c0 := Blk.cell (hw_.own _ (List.mem_cons_self ..)) 0 _ rfl
        have c1 := Blk.cell (hw_.own _ (List.mem_cons_self ..)) 1 _ rfl
        have c2 := Blk.cell (hw_.own _ (List.mem_cons_self ..)) 2 _ rfl
        have c3 := Blk.cell (hw_.own _ (List.mem_cons_self ..)) 3 _ rfl
        have c4 := Blk.cell (hw_.own _ (List.mem_cons_self ..)) 4 _ rfl
        have cl := Blk.lt (hw_.own _ (List.mem_cons_self ..))
        first | (go_simp; done) | (go_simp; with_reducible rfl) | (go_simp; rw [if_neg (by first | omega | (simp; omega))]))
  try simp only [Act.put, List.setIfInBounds_toArray, List.set_cons_zero, List.set_cons_succ]
  try simp only [e1, e2, e3, k1, k2, k3, k4]
  refine q_run ?_ ?_ ?_ ?_
  · kernel_rfl
  rotate_left
  · intro w_ hw_
    have c0 := Blk.cell (hw_.own _ (List.mem_cons_self ..)) 0 _ rfl
    have c1 := Blk.cell (hw_.own _ (List.mem_cons_self ..)) 1 _ rfl
    have c2 := Blk.cell (hw_.own _ (List.mem_cons_self ..)) 2 _ rfl
    have c3 := Blk.cell (hw_.own _ (List.mem_cons_self ..)) 3 _ rfl
    have c4 := Blk.cell (hw_.own _ (List.mem_cons_self ..)) 4 _ rfl
    have cl := Blk.lt (hw_.own _ (List.mem_cons_self ..))
    first | (go_simp; done) | (go_simp; with_reducible rfl) | (go_simp; rw [if_neg (by first | omega | (simp; omega))])
  try simp only [Act.put, List.setIfInBounds_toArray, List.set_cons_zero, List.set_cons_succ]
  try simp only [e1, e2, e3, k1, k2, k3, k4]
  refine q_run ?_ ?_ ?_ ?_
  · kernel_rfl
  rotate_left
  · intro w_ hw_
    have c0 := Blk.cell (hw_.own _ (List.mem_cons_self ..)) 0 _ rfl
    have c1 := Blk.cell (hw_.own _ (List.mem_cons_self ..)) 1 _ rfl
    have c2 := Blk.cell (hw_.own _ (List.mem_cons_self ..)) 2 _ rfl
    have c3 := Blk.cell (hw_.own _ (List.mem_cons_self ..)) 3 _ rfl
    have c4 := Blk.cell (hw_.own _ (List.mem_cons_self ..)) 4 _ rfl
    have cl := Blk.lt (hw_.own _ (List.mem_cons_self ..))
    first | (go_simp; done) | (go_simp; with_reducible rfl) | (go_simp; rw [if_neg (by first | omega | (simp; omega))])
  try simp only [Act.put, List.setIfInBounds_toArray, List.set_cons_zero, List.set_cons_succ]
  try simp only [e1, e2, e3, k1, k2, k3, k4]
  first
   | (refine q_skip ?_ ?_
      · rfl)
   | (refine q_run ?_ ?_ ?_ ?_
      · kernel_rfl
      rotate_left
      · intro w_ hw_
        have c0 := Blk.cell (hw_.own _ (List.mem_cons_self ..)) 0 _ rfl
        have c1 := Blk.cell (hw_.own _ (List.mem_cons_self ..)) 1 _ rfl
        have c2 := Blk.cell (hw_.own _ (List.mem_cons_self ..)) 2 _ rfl
        have c3 := Blk.cell (hw_.own _ (List.mem_cons_self ..)) 3 _ rfl
        have c4 := Blk.cell (hw_.own _ (List.mem_cons_self ..)) 4 _ rfl
        have cl := Blk.lt (hw_.own _ (List.mem_cons_self ..))
        first | (go_simp; done) | (go_simp; with_reducible rfl) | (go_simp; rw [if_neg (by first | omega | (simp; omega))]))
  try simp only [Act.put, List.setIfInBounds_toArray, List.set_cons_zero, List.set_cons_succ]
  try simp only [e1, e2, e3, k1, k2, k3, k4]
  first
   | (refine q_skip ?_ ?_
      · rfl)
   | (refine q_run ?_ ?_ ?_ ?_
      · kernel_rfl
      rotate_left
      · intro w_ hw_
        have c0 := Blk.cell (hw_.own _ (List.mem_cons_self ..)) 0 _ rfl
        have c1 := Blk.cell (hw_.own _ (List.mem_cons_self ..)) 1 _ rfl
        have c2 := Blk.cell (hw_.own _ (List.mem_cons_self ..)) 2 _ rfl
        have c3 := Blk.cell (hw_.own _ (List.mem_cons_self ..)) 3 _ rfl
        have c4 := Blk.cell (hw_.own _ (List.mem_cons_self ..)) 4 _ rfl
        have cl := Blk.lt (hw_.own _ (List.mem_cons_self ..))
        first | (go_simp; done) | (go_simp; with_reducible rfl) | (go_simp; rw [if_neg (by first | omega | (simp; omega))]))
  try simp only [Act.put, List.setIfInBounds_toArray, List.set_cons_zero, List.set_cons_succ]
  try simp only [e1, e2, e3, k1, k2, k3, k4]
  first
   | (refine q_skip ?_ ?_
      · rfl)
   | (refine q_run ?_ ?_ ?_ ?_
      · kernel_rfl
      rotate_left
      · intro w_ hw_
        have c0 := Blk.cell (hw_.own _ (List.mem_cons_self ..)) 0 _ rfl
        have c1 := Blk.cell (hw_.own _ (List.mem_cons_self ..)) 1 _ rfl
        have c2 := Blk.cell (hw_.own _ (List.mem_cons_self ..)) 2 _ rfl
        have c3 := Blk.cell (hw_.own _ (List.mem_cons_self ..)) 3 _ rfl
        have c4 := Blk.cell (hw_.own _ (List.mem_cons_self ..)) 4 _ rfl
        have cl := Blk.lt (hw_.own _ (List.mem_cons_self ..))
        first | (go_simp; done) | (go_simp; with_reducible rfl) | (go_simp; rw [if_neg (by first | omega | (simp; omega))]))
  try simp only [Act.put, List.setIfInBounds_toArray, List.set_cons_zero, List.set_cons_succ]
  try simp only [e1, e2, e3, k1, k2, k3, k4]
  first
   | (refine q_skip ?_ ?_
      · rfl)
   | (refine q_run ?_ ?_ ?_ ?_
      · kernel_rfl
      rotate_left
      · intro w_ hw_
        have c0 := Blk.cell (hw_.own _ (List.mem_cons_self ..)) 0 _ rfl
        have c1 := Blk.cell (hw_.own _ (List.mem_cons_self ..)) 1 _ rfl
        have c2 := Blk.cell (hw_.own _ (List.mem_cons_self ..)) 2 _ rfl
        have c3 := Blk.cell (hw_.own _ (List.mem_cons_self ..)) 3 _ rfl
        have c4 := Blk.cell (hw_.own _ (List.mem_cons_self ..)) 4 _ rfl
        have cl := Blk.lt (hw_.own _ (List.mem_cons_self ..))
        first | (go_simp; done) | (go_simp; with_reducible rfl) | (go_simp; rw [if_neg (by first | omega | (simp; omega))]))
  try simp only [Act.put, List.setIfInBounds_toArray, List.set_cons_zero, List.set_cons_succ]
  try simp only [e1, e2, e3, k1, k2, k3, k4]
  first
   | (refine q_skip ?_ ?_
      · rfl)
   | (refine q_run ?_ ?_ ?_ ?_
      · kernel_rfl
      rotate_left
      · intro w_ hw_
        have c0 := Blk.cell (hw_.own _ (List.mem_cons_self ..)) 0 _ rfl
        have c1 := Blk.cell (hw_.own _ (List.mem_cons_self ..)) 1 _ rfl
        have c2 := Blk.cell (hw_.own _ (List.mem_cons_self ..)) 2 _ rfl
        have c3 := Blk.cell (hw_.own _ (List.mem_cons_self ..)) 3 _ rfl
        have c4 := Blk.cell (hw_.own _ (List.mem_cons_self ..)) 4 _ rfl
        have cl := Blk.lt (hw_.own _ (List.mem_cons_self ..))
        first | (go_simp; done) | (go_simp; with_reducible rfl) | (go_simp; rw [if_neg (by first | omega | (simp; omega))]))
  try simp only [Act.put, List.setIfInBounds_toArray, List.set_cons_zero, List.set_cons_succ]
  try simp only [e1, e2, e3, k1, k2, k3, k4]
  refine q_run ?_ ?_ ?_ ?_
  · kernel_rfl
  rotate_left
  · intro w_ hw_
    have c0 := Blk.cell (hw_.own _ (List.mem_cons_self ..)) 0 _ rfl
    have c1 := Blk.cell (hw_.own _ (List.mem_cons_self ..)) 1 _ rfl
    have c2 := Blk.cell (hw_.own _ (List.mem_cons_self ..)) 2 _ rfl
    have c3 := Blk.cell (hw_.own _ (List.mem_cons_self ..)) 3 _ rfl
    have c4 := Blk.cell (hw_.own _ (List.mem_cons_self ..)) 4 _ rfl
    have cl := Blk.lt (hw_.own _ (List.mem_cons_self ..))
    first | (go_simp; done) | (go_simp; with_reducible rfl) | (go_simp; rw [if_neg (by first | omega | (simp; omega))])
  try simp only [Act.put, List.setIfInBounds_toArray, List.set_cons_zero, List.set_cons_succ]
  try simp only [e1, e2, e3, k1, k2, k3, k4]
  refine q_run ?_ ?_ ?_ ?_
  · kernel_rfl
  rotate_left
  · intro w_ hw_
    have c0 := Blk.cell (hw_.own _ (List.mem_cons_self ..)) 0 _ rfl
    have c1 := Blk.cell (hw_.own _ (List.mem_cons_self ..)) 1 _ rfl
    have c2 := Blk.cell (hw_.own _ (List.mem_cons_self ..)) 2 _ rfl
    have c3 := Blk.cell (hw_.own _ (List.mem_cons_self ..)) 3 _ rfl
    have c4 := Blk.cell (hw_.own _ (List.mem_cons_self ..)) 4 _ rfl
    have cl := Blk.lt (hw_.own _ (List.mem_cons_self ..))
    first | (go_simp; done) | (go_simp; with_reducible rfl) | (go_simp; rw [if_neg (by first | omega | (simp; omega))])
  try simp only [Act.put, List.setIfInBounds_toArray, List.set_cons_zero, List.set_cons_succ]
  try simp only [e1, e2, e3, k1, k2, k3, k4]
  first
   | (refine q_skip ?_ ?_
      · rfl)
   | (refine q_run ?_ ?_ ?_ ?_
      · kernel_rfl
      rotate_left
      · intro w_ hw_
        have c0 := Blk.cell (hw_.own _ (List.mem_cons_self ..)) 0 _ rfl
        have c1 := Blk.cell (hw_.own _ (List.mem_cons_self ..)) 1 _ rfl
        have c2 := Blk.cell (hw_.own _ (List.mem_cons_self ..)) 2 _ rfl
        have c3 := Blk.cell (hw_.own _ (List.mem_cons_self ..)) 3 _ rfl
        have c4 := Blk.cell (hw_.own _ (List.mem_cons_self ..)) 4 _ rfl
        have cl := Blk.lt (hw_.own _ (List.mem_cons_self ..))
        first | (go_simp; done) | (go_simp; with_reducible rfl) | (go_simp; rw [if_neg (by first | omega | (simp; omega))]))
  try simp only [Act.put, List.setIfInBounds_toArray, List.set_cons_zero, List.set_cons_succ]
  try simp only [e1, e2, e3, k1, k2, k3, k4]
  first
   | (refine q_skip ?_ ?_
      · rfl)
   | (refine q_run ?_ ?_ ?_ ?_
      · kernel_rfl
      rotate_left
      · intro w_ hw_
        have c0 := Blk.cell (hw_.own _ (List.mem_cons_self ..)) 0 _ rfl
        have c1 := Blk.cell (hw_.own _ (List.mem_cons_self ..)) 1 _ rfl
        have c2 := Blk.cell (hw_.own _ (List.mem_cons_self ..)) 2 _ rfl
        have c3 := Blk.cell (hw_.own _ (List.mem_cons_self ..)) 3 _ rfl
        have c4 := Blk.cell (hw_.own _ (List.mem_cons_self ..)) 4 _ rfl
        have cl := Blk.lt (hw_.own _ (List.mem_cons_self ..))
        first | (go_simp; done) | (go_simp; with_reducible rfl) | (go_simp; rw [if_neg (by first | omega | (simp; omega))]))
  try simp only [Act.put, List.setIfInBounds_toArray, List.set_cons_zero, List.set_cons_succ]
  try simp only [e1, e2, e3, k1, k2, k3, k4]
  first
   | (refine q_skip ?_ ?_
      · rfl)
   | (refine q_call ?_ (.int .i64 (Rp.cls c)) ?_ ?_ ?_ ?_ ?_
      · kernel_rfl
      rotate_left 2
      · intro w_ hw_
        go_simp
        refine ⟨?_, ?_⟩ <;> with_reducible rfl
      · intro w_ hw_
        have c0 := Blk.cell (hw_.own _ (List.mem_cons_self ..)) 0 _ rfl
        have c1 := Blk.cell (hw_.own _ (List.mem_cons_self ..)) 1 _ rfl
        have c2 := Blk.cell (hw_.own _ (List.mem_cons_self ..)) 2 _ rfl
        have c3 := Blk.cell (hw_.own _ (List.mem_cons_self ..)) 3 _ rfl
        have c4 := Blk.cell (hw_.own _ (List.mem_cons_self ..)) 4 _ rfl
        have cl := Blk.lt (hw_.own _ (List.mem_cons_self ..))
        exact (class_any _ _).mono fun _ _ ⟨h1_, h2_⟩ => ⟨h1_, h2_ ▸ hw_⟩)
  try simp only [Act.put, List.setIfInBounds_toArray, List.set_cons_zero, List.set_cons_succ]
  try simp only [e1, e2, e3, k1, k2, k3, k4]
  first
   | (refine q_skip ?_ ?_
      · rfl)
   | (refine q_run ?_ ?_ ?_ ?_
      · kernel_rfl
      rotate_left
      · intro w_ hw_
        have c0 := Blk.cell (hw_.own _ (List.mem_cons_self ..)) 0 _ rfl
        have c1 := Blk.cell (hw_.own _ (List.mem_cons_self ..)) 1 _ rfl
        have c2 := Blk.cell (hw_.own _ (List.mem_cons_self ..)) 2 _ rfl
        have c3 := Blk.cell (hw_.own _ (List.mem_cons_self ..)) 3 _ rfl
        have c4 := Blk.cell (hw_.own _ (List.mem_cons_self ..)) 4 _ rfl
        have cl := Blk.lt (hw_.own _ (List.mem_cons_self ..))
        first | (go_simp; done) | (go_simp; with_reducible rfl) | (go_simp; rw [if_neg (by first | omega | (simp; omega))]))
  try simp only [Act.put, List.setIfInBounds_toArray, List.set_cons_zero, List.set_cons_succ]
  try simp only [e1, e2, e3, k1, k2, k3, k4]
  refine q_run ?_ ?_ ?_ ?_
  · kernel_rfl
  rotate_left
  · intro w_ hw_
    have c0 := Blk.cell (hw_.own _ (List.mem_cons_self ..)) 0 _ rfl
    have c1 := Blk.cell (hw_.own _ (List.mem_cons_self ..)) 1 _ rfl
    have c2 := Blk.cell (hw_.own _ (List.mem_cons_self ..)) 2 _ rfl
    have c3 := Blk.cell (hw_.own _ (List.mem_cons_self ..)) 3 _ rfl
    have c4 := Blk.cell (hw_.own _ (List.mem_cons_self ..)) 4 _ rfl
    have cl := Blk.lt (hw_.own _ (List.mem_cons_self ..))
    first | (go_simp; done) | (go_simp; with_reducible rfl) | (go_simp; rw [if_neg (by first | omega | (simp; omega))])
  try simp only [Act.put, List.setIfInBounds_toArray, List.set_cons_zero, List.set_cons_succ]
  try simp only [e1, e2, e3, k1, k2, k3, k4]
  refine q_run ?_ ?_ ?_ ?_
  · kernel_rfl
  rotate_left
  · intro w_ hw_
    have c0 := Blk.cell (hw_.own _ (List.mem_cons_self ..)) 0 _ rfl
    have c1 := Blk.cell (hw_.own _ (List.mem_cons_self ..)) 1 _ rfl
    have c2 := Blk.cell (hw_.own _ (List.mem_cons_self ..)) 2 _ rfl
    have c3 := Blk.cell (hw_.own _ (List.mem_cons_self ..)) 3 _ rfl
    have c4 := Blk.cell (hw_.own _ (List.mem_cons_self ..)) 4 _ rfl
    have cl := Blk.lt (hw_.own _ (List.mem_cons_self ..))
    first | (go_simp; done) | (go_simp; with_reducible rfl) | (go_simp; rw [if_neg (by first | omega | (simp; omega))])
  try simp only [Act.put, List.setIfInBounds_toArray, List.set_cons_zero, List.set_cons_succ]
  try simp only [e1, e2, e3, k1, k2, k3, k4]
  first
   | (refine q_skip ?_ ?_
      · rfl)
   | (refine q_run ?_ ?_ ?_ ?_
      · kernel_rfl
      rotate_left
      · intro w_ hw_
        have c0 := Blk.cell (hw_.own _ (List.mem_cons_self ..)) 0 _ rfl
        have c1 := Blk.cell (hw_.own _ (List.mem_cons_self ..)) 1 _ rfl
        have c2 := Blk.cell (hw_.own _ (List.mem_cons_self ..)) 2 _ rfl
        have c3 := Blk.cell (hw_.own _ (List.mem_cons_self ..)) 3 _ rfl
        have c4 := Blk.cell (hw_.own _ (List.mem_cons_self ..)) 4 _ rfl
        have cl := Blk.lt (hw_.own _ (List.mem_cons_self ..))
        first | (go_simp; done) | (go_simp; with_reducible rfl) | (go_simp; rw [if_neg (by first | omega | (simp; omega))]))
  try simp only [Act.put, List.setIfInBounds_toArray, List.set_cons_zero, List.set_cons_succ]
  try simp only [e1, e2, e3, k1, k2, k3, k4]
  first
   | (refine q_skip ?_ ?_
      · rfl)
   | (refine q_run ?_ ?_ ?_ ?_
      · kernel_rfl
      rotate_left
      · intro w_ hw_
        have c0 := Blk.cell (hw_.own _ (List.mem_cons_self ..)) 0 _ rfl
        have c1 := Blk.cell (hw_.own _ (List.mem_cons_self ..)) 1 _ rfl
        have c2 := Blk.cell (hw_.own _ (List.mem_cons_self ..)) 2 _ rfl
        have c3 := Blk.cell (hw_.own _ (List.mem_cons_self ..)) 3 _ rfl
        have c4 := Blk.cell (hw_.own _ (List.mem_cons_self ..)) 4 _ rfl
        have cl := Blk.lt (hw_.own _ (List.mem_cons_self ..))
        first | (go_simp; done) | (go_simp; with_reducible rfl) | (go_simp; rw [if_neg (by first | omega | (simp; omega))]))
  try simp only [Act.put, List.setIfInBounds_toArray, List.set_cons_zero, List.set_cons_succ]
  try simp only [e1, e2, e3, k1, k2, k3, k4]
  first
   | (refine q_skip ?_ ?_
      · rfl)
   | (refine q_call ?_ (.int .i64 (Rp.cls c)) ?_ ?_ ?_ ?_ ?_
      · kernel_rfl
      rotate_left 2
      · intro w_ hw_
        go_simp
        refine ⟨?_, ?_⟩ <;> with_reducible rfl
      · intro w_ hw_
        have c0 := Blk.cell (hw_.own _ (List.mem_cons_self ..)) 0 _ rfl
        have c1 := Blk.cell (hw_.own _ (List.mem_cons_self ..)) 1 _ rfl
        have c2 := Blk.cell (hw_.own _ (List.mem_cons_self ..)) 2 _ rfl
        have c3 := Blk.cell (hw_.own _ (List.mem_cons_self ..)) 3 _ rfl
        have c4 := Blk.cell (hw_.own _ (List.mem_cons_self ..)) 4 _ rfl
        have cl := Blk.lt (hw_.own _ (List.mem_cons_self ..))
        exact (class_any _ _).mono fun _ _ ⟨h1_, h2_⟩ => ⟨h1_, h2_ ▸ hw_⟩)
  try simp only [Act.put, List.setIfInBounds_toArray, List.set_cons_zero, List.set_cons_succ]
  try simp only [e1, e2, e3, k1, k2, k3, k4]
  first
   | (refine q_skip ?_ ?_
      · rfl)
   | (refine q_run ?_ ?_ ?_ ?_
      · kernel_rfl
      rotate_left
      · intro w_ hw_
        have c0 := Blk.cell (hw_.own _ (List.mem_cons_self ..)) 0 _ rfl
        have c1 := Blk.cell (hw_.own _ (List.mem_cons_self ..)) 1 _ rfl
        have c2 := Blk.cell (hw_.own _ (List.mem_cons_self ..)) 2 _ rfl
        have c3 := Blk.cell (hw_.own _ (List.mem_cons_self ..)) 3 _ rfl
        have c4 := Blk.cell (hw_.own _ (List.mem_cons_self ..)) 4 _ rfl
        have cl := Blk.lt (hw_.own _ (List.mem_cons_self ..))
        first | (go_simp; done) | (go_simp; with_reducible rfl) | (go_simp; rw [if_neg (by first | omega | (simp; omega))]))
  try simp only [Act.put, List.setIfInBounds_toArray, List.set_cons_zero, List.set_cons_succ]
  try simp only [e1, e2, e3, k1, k2, k3, k4]
  refine q_run ?_ ?_ ?_ ?_
  · kernel_rfl
  rotate_left
  · intro w_ hw_
    have c0 := Blk.cell (hw_.own _ (List.mem_cons_self ..)) 0 _ rfl
    have c1 := Blk.cell (hw_.own _ (List.mem_cons_self ..)) 1 _ rfl
    have c2 := Blk.cell (hw_.own _ (List.mem_cons_self ..)) 2 _ rfl
    have c3 := Blk.cell (hw_.own _ (List.mem_cons_self ..)) 3 _ rfl
    have c4 := Blk.cell (hw_.own _ (List.mem_cons_self ..)) 4 _ rfl
    have cl := Blk.lt (hw_.own _ (List.mem_cons_self ..))
    first | (go_simp; done) | (go_simp; with_reducible rfl) | (go_simp; rw [if_neg (by first | omega | (simp; omega))])
  try simp only [Act.put, List.setIfInBounds_toArray, List.set_cons_zero, List.set_cons_succ]
  try simp only [e1, e2, e3, k1, k2, k3, k4]
  refine q_run ?_ ?_ ?_ ?_
  · kernel_rfl
  rotate_left
  · intro w_ hw_
    have c0 := Blk.cell (hw_.own _ (List.mem_cons_self ..)) 0 _ rfl
    have c1 := Blk.cell (hw_.own _ (List.mem_cons_self ..)) 1 _ rfl
    have c2 := Blk.cell (hw_.own _ (List.mem_cons_self ..)) 2 _ rfl
    have c3 := Blk.cell (hw_.own _ (List.mem_cons_self ..)) 3 _ rfl
    have c4 := Blk.cell (hw_.own _ (List.mem_cons_self ..)) 4 _ rfl
    have cl := Blk.lt (hw_.own _ (List.mem_cons_self ..))
    first | (go_simp; done) | (go_simp; with_reducible rfl) | (go_simp; rw [if_neg (by first | omega | (simp; omega))])
  try simp only [Act.put, List.setIfInBounds_toArray, List.set_cons_zero, List.set_cons_succ]
  try simp only [e1, e2, e3, k1, k2, k3, k4]
  first
   | (refine q_skip ?_ ?_
      · rfl)
   | (refine q_run ?_ ?_ ?_ ?_
      · kernel_rfl
      rotate_left
      · intro w_ hw_
        have c0 := Blk.cell (hw_.own _ (List.mem_cons_self ..)) 0 _ rfl
        have c1 := Blk.cell (hw_.own _ (List.mem_cons_self ..)) 1 _ rfl
        have c2 := Blk.cell (hw_.own _ (List.mem_cons_self ..)) 2 _ rfl
        have c3 := Blk.cell (hw_.own _ (List.mem_cons_self ..)) 3 _ rfl
        have c4 := Blk.cell (hw_.own _ (List.mem_cons_self ..)) 4 _ rfl
        have cl := Blk.lt (hw_.own _ (List.mem_cons_self ..))
        first | (go_simp; done) | (go_simp; with_reducible rfl) | (go_simp; rw [if_neg (by first | omega | (simp; omega))]))
  try simp only [Act.put, List.setIfInBounds_toArray, List.set_cons_zero, List.set_cons_succ]
  try simp only [e1, e2, e3, k1, k2, k3, k4]
  first
   | (refine q_skip ?_ ?_
      · rfl)
   | (refine q_run ?_ ?_ ?_ ?_
      · kernel_rfl
      rotate_left
      · intro w_ hw_
        have c0 := Blk.cell (hw_.own _ (List.mem_cons_self ..)) 0 _ rfl
        have c1 := Blk.cell (hw_.own _ (List.mem_cons_self ..)) 1 _ rfl
        have c2 := Blk.cell (hw_.own _ (List.mem_cons_self ..)) 2 _ rfl
        have c3 := Blk.cell (hw_.own _ (List.mem_cons_self ..)) 3 _ rfl
        have c4 := Blk.cell (hw_.own _ (List.mem_cons_self ..)) 4 _ rfl
        have cl := Blk.lt (hw_.own _ (List.mem_cons_self ..))
        first | (go_simp; done) | (go_simp; with_reducible rfl) | (go_simp; rw [if_neg (by first | omega | (simp; omega))]))
  try simp only [Act.put, List.setIfInBounds_toArray, List.set_cons_zero, List.set_cons_succ]
  try simp only [e1, e2, e3, k1, k2, k3, k4]
  first
   | (refine q_skip ?_ ?_
      · rfl)
   | (refine q_run ?_ ?_ ?_ ?_
      · kernel_rfl
      rotate_left
      · intro w_ hw_
        have c0 := Blk.cell (hw_.own _ (List.mem_cons_self ..)) 0 _ rfl
        have c1 := Blk.cell (hw_.own _ (List.mem_cons_self ..)) 1 _ rfl
        have c2 := Blk.cell (hw_.own _ (List.mem_cons_self ..)) 2 _ rfl
        have c3 := Blk.cell (hw_.own _ (List.mem_cons_self ..)) 3 _ rfl
        have c4 := Blk.cell (hw_.own _ (List.mem_cons_self ..)) 4 _ rfl
        have cl := Blk.lt (hw_.own _ (List.mem_cons_self ..))
        first | (go_simp; done) | (go_simp; with_reducible rfl) | (go_simp; rw [if_neg (by first | omega | (simp; omega))]))
  try simp only [Act.put, List.setIfInBounds_toArray, List.set_cons_zero, List.set_cons_succ]
  try simp only [e1, e2, e3, k1, k2, k3, k4]
  first
   | (refine q_skip ?_ ?_
      · rfl)
   | (refine q_run ?_ ?_ ?_ ?_
      · kernel_rfl
      rotate_left
      · intro w_ hw_
        have c0 := Blk.cell (hw_.own _ (List.mem_cons_self ..)) 0 _ rfl
        have c1 := Blk.cell (hw_.own _ (List.mem_cons_self ..)) 1 _ rfl
        have c2 := Blk.cell (hw_.own _ (List.mem_cons_self ..)) 2 _ rfl
        have c3 := Blk.cell (hw_.own _ (List.mem_cons_self ..)) 3 _ rfl
        have c4 := Blk.cell (hw_.own _ (List.mem_cons_self ..)) 4 _ rfl
        have cl := Blk.lt (hw_.own _ (List.mem_cons_self ..))
        first | (go_simp; done) | (go_simp; with_reducible rfl) | (go_simp; rw [if_neg (by first | omega | (simp; omega))]))
  try simp only [Act.put, List.setIfInBounds_toArray, List.set_cons_zero, List.set_cons_succ]
  try simp only [e1, e2, e3, k1, k2, k3, k4]
  first
   | (refine q_skip ?_ ?_
      · rfl)
   | (refine q_run ?_ ?_ ?_ ?_
      · kernel_rfl
      rotate_left
      · intro w_ hw_
        have c0 := Blk.cell (hw_.own _ (List.mem_cons_self ..)) 0 _ rfl
        have c1 := Blk.cell (hw_.own _ (List.mem_cons_self ..)) 1 _ rfl
        have c2 := Blk.cell (hw_.own _ (List.mem_cons_self ..)) 2 _ rfl
        have c3 := Blk.cell (hw_.own _ (List.mem_cons_self ..)) 3 _ rfl
        have c4 := Blk.cell (hw_.own _ (List.mem_cons_self ..)) 4 _ rfl
        have cl := Blk.lt (hw_.own _ (List.mem_cons_self ..))
        first | (go_simp; done) | (go_simp; with_reducible rfl) | (go_simp; rw [if_neg (by first | omega | (simp; omega))]))
  try simp only [Act.put, List.setIfInBounds_toArray, List.set_cons_zero, List.set_cons_succ]
  try simp only [e1, e2, e3, k1, k2, k3, k4]
  first
   | (refine q_skip ?_ ?_
      · rfl)
   | (refine q_run ?_ ?_ ?_ ?_
      · kernel_rfl
      rotate_left
      · intro w_ hw_
        have c0 := Blk.cell (hw_.own _ (List.mem_cons_self ..)) 0 _ rfl
        have c1 := Blk.cell (hw_.own _ (List.mem_cons_self ..)) 1 _ rfl
        have c2 := Blk.cell (hw_.own _ (List.mem_cons_self ..)) 2 _ rfl
        have c3 := Blk.cell (hw_.own _ (List.mem_cons_self ..)) 3 _ rfl
        have c4 := Blk.cell (hw_.own _ (List.mem_cons_self ..)) 4 _ rfl
        have cl := Blk.lt (hw_.own _ (List.mem_cons_self ..))
        first | (go_simp; done) | (go_simp; with_reducible rfl) | (go_simp; rw [if_neg (by first | omega | (simp; omega))]))
  try simp only [Act.put, List.setIfInBounds_toArray, List.set_cons_zero, List.set_cons_succ]
  try simp only [e1, e2, e3, k1, k2, k3, k4]
  first
   | (refine q_skip ?_ ?_
      · rfl)
   | (refine q_run ?_ ?_ ?_ ?_
      · kernel_rfl
      rotate_left
      · intro w_ hw_
        have c0 := Blk.cell (hw_.own _ (List.mem_cons_self ..)) 0 _ rfl
        have c1 := Blk.cell (hw_.own _ (List.mem_cons_self ..)) 1 _ rfl
        have c2 := Blk.cell (hw_.own _ (List.mem_cons_self ..)) 2 _ rfl
        have c3 := Blk.cell (hw_.own _ (List.mem_cons_self ..)) 3 _ rfl
        have c4 := Blk.cell (hw_.own _ (List.mem_cons_self ..)) 4 _ rfl
        have cl := Blk.lt (hw_.own _ (List.mem_cons_self ..))
        first | (go_simp; done) | (go_simp; with_reducible rfl) | (go_simp; rw [if_neg (by first | omega | (simp; omega))]))
  try simp only [Act.put, List.setIfInBounds_toArray, List.set_cons_zero, List.set_cons_succ]
  try simp only [e1, e2, e3, k1, k2, k3, k4]
  first
   | (refine q_skip ?_ ?_
      · rfl)
   | (refine q_run ?_ ?_ ?_ ?_
      · kernel_rfl
      rotate_left
      · intro w_ hw_
        have c0 := Blk.cell (hw_.own _ (List.mem_cons_self ..)) 0 _ rfl
        have c1 := Blk.cell (hw_.own _ (List.mem_cons_self ..)) 1 _ rfl
        have c2 := Blk.cell (hw_.own _ (List.mem_cons_self ..)) 2 _ rfl
        have c3 := Blk.cell (hw_.own _ (List.mem_cons_self ..)) 3 _ rfl
        have c4 := Blk.cell (hw_.own _ (List.mem_cons_self ..)) 4 _ rfl
        have cl := Blk.lt (hw_.own _ (List.mem_cons_self ..))
        first | (go_simp; done) | (go_simp; with_reducible rfl) | (go_simp; rw [if_neg (by first | omega | (simp; omega))]))
  try simp only [Act.put, List.setIfInBounds_toArray, List.set_cons_zero, List.set_cons_succ]
  try simp only [e1, e2, e3, k1, k2, k3, k4]
  first
   | (refine q_skip ?_ ?_
      · rfl)
   | (refine q_run ?_ ?_ ?_ ?_
      · kernel_rfl
      rotate_left
      · intro w_ hw_
        have c0 := Blk.cell (hw_.own _ (List.mem_cons_self ..)) 0 _ rfl
        have c1 := Blk.cell (hw_.own _ (List.mem_cons_self ..)) 1 _ rfl
        have c2 := Blk.cell (hw_.own _ (List.mem_cons_self ..)) 2 _ rfl
        have c3 := Blk.cell (hw_.own _ (List.mem_cons_self ..)) 3 _ rfl
        have c4 := Blk.cell (hw_.own _ (List.mem_cons_self ..)) 4 _ rfl
        have cl := Blk.lt (hw_.own _ (List.mem_cons_self ..))
        first | (go_simp; done) | (go_simp; with_reducible rfl) | (go_simp; rw [if_neg (by first | omega | (simp; omega))]))
  try simp only [Act.put, List.setIfInBounds_toArray, List.set_cons_zero, List.set_cons_succ]
  try simp only [e1, e2, e3, k1, k2, k3, k4]
  first
   | (refine q_skip ?_ ?_
      · rfl)
   | (refine q_run ?_ ?_ ?_ ?_
      · kernel_rfl
      rotate_left
      · intro w_ hw_
        have c0 := Blk.cell (hw_.own _ (List.mem_cons_self ..)) 0 _ rfl
        have c1 := Blk.cell (hw_.own _ (List.mem_cons_self ..)) 1 _ rfl
        have c2 := Blk.cell (hw_.own _ (List.mem_cons_self ..)) 2 _ rfl
        have c3 := Blk.cell (hw_.own _ (List.mem_cons_self ..)) 3 _ rfl
        have c4 := Blk.cell (hw_.own _ (List.mem_cons_self ..)) 4 _ rfl
        have cl := Blk.lt (hw_.own _ (List.mem_cons_self ..))
        first | (go_simp; done) | (go_simp; with_reducible rfl) | (go_simp; rw [if_neg (by first | omega | (simp; omega))]))
  try simp only [Act.put, List.setIfInBounds_toArray, List.set_cons_zero, List.set_cons_succ]
  try simp only [e1, e2, e3, k1, k2, k3, k4]
  first
   | (refine q_skip ?_ ?_
      · rfl)
   | (refine q_call ?_ (.int .i64 (Rp.cls c)) ?_ ?_ ?_ ?_ ?_
      · kernel_rfl
      rotate_left 2
      · intro w_ hw_
        go_simp
        refine ⟨?_, ?_⟩ <;> with_reducible rfl
      · intro w_ hw_
        have c0 := Blk.cell (hw_.own _ (List.mem_cons_self ..)) 0 _ rfl
        have c1 := Blk.cell (hw_.own _ (List.mem_cons_self ..)) 1 _ rfl
        have c2 := Blk.cell (hw_.own _ (List.mem_cons_self ..)) 2 _ rfl
        have c3 := Blk.cell (hw_.own _ (List.mem_cons_self ..)) 3 _ rfl
        have c4 := Blk.cell (hw_.own _ (List.mem_cons_self ..)) 4 _ rfl
        have cl := Blk.lt (hw_.own _ (List.mem_cons_self ..))
        exact (class_any _ _).mono fun _ _ ⟨h1_, h2_⟩ => ⟨h1_, h2_ ▸ hw_⟩)
  try simp only [Act.put, List.setIfInBounds_toArray, List.set_cons_zero, List.set_cons_succ]
  try simp only [e1, e2, e3, k1, k2, k3, k4]
  first
   | (refine q_skip ?_ ?_
      · rfl)
   | (refine q_run ?_ ?_ ?_ ?_
      · kernel_rfl
      rotate_left
      · intro w_ hw_
        have c0 := Blk.cell (hw_.own _ (List.mem_cons_self ..)) 0 _ rfl
        have c1 := Blk.cell (hw_.own _ (List.mem_cons_self ..)) 1 _ rfl
        have c2 := Blk.cell (hw_.own _ (List.mem_cons_self ..)) 2 _ rfl
        have c3 := Blk.cell (hw_.own _ (List.mem_cons_self ..)) 3 _ rfl
        have c4 := Blk.cell (hw_.own _ (List.mem_cons_self ..)) 4 _ rfl
        have cl := Blk.lt (hw_.own _ (List.mem_cons_self ..))
        first | (go_simp; done) | (go_simp; with_reducible rfl) | (go_simp; rw [if_neg (by first | omega | (simp; omega))]))
  try simp only [Act.put, List.setIfInBounds_toArray, List.set_cons_zero, List.set_cons_succ]
  try simp only [e1, e2, e3, k1, k2, k3, k4]
  first
   | (refine q_skip ?_ ?_
      · rfl)
   | (refine q_run ?_ ?_ ?_ ?_
      · kernel_rfl
      rotate_left
      · intro w_ hw_
        have c0 := Blk.cell (hw_.own _ (List.mem_cons_self ..)) 0 _ rfl
        have c1 := Blk.cell (hw_.own _ (List.mem_cons_self ..)) 1 _ rfl
        have c2 := Blk.cell (hw_.own _ (List.mem_cons_self ..)) 2 _ rfl
        have c3 := Blk.cell (hw_.own _ (List.mem_cons_self ..)) 3 _ rfl
        have c4 := Blk.cell (hw_.own _ (List.mem_cons_self ..)) 4 _ rfl
        have cl := Blk.lt (hw_.own _ (List.mem_cons_self ..))
        first | (go_simp; done) | (go_simp; with_reducible rfl) | (go_simp; rw [if_neg (by first | omega | (simp; omega))]))
  try simp only [Act.put, List.setIfInBounds_toArray, List.set_cons_zero, List.set_cons_succ]
  try simp only [e1, e2, e3, k1, k2, k3, k4]
  refine q_run ?_ ?_ ?_ ?_
  · kernel_rfl
  rotate_left
  · intro w_ hw_
    have c0 := Blk.cell (hw_.own _ (List.mem_cons_self ..)) 0 _ rfl
    have c1 := Blk.cell (hw_.own _ (List.mem_cons_self ..)) 1 _ rfl
    have c2 := Blk.cell (hw_.own _ (List.mem_cons_self ..)) 2 _ rfl
    have c3 := Blk.cell (hw_.own _ (List.mem_cons_self ..)) 3 _ rfl
    have c4 := Blk.cell (hw_.own _ (List.mem_cons_self ..)) 4 _ rfl
    have cl := Blk.lt (hw_.own _ (List.mem_cons_self ..))
    first | (go_simp; done) | (go_simp; with_reducible rfl) | (go_simp; rw [if_neg (by first | omega | (simp; omega))])
  try simp only [Act.put, List.setIfInBounds_toArray, List.set_cons_zero, List.set_cons_succ]
  try simp only [e1, e2, e3, k1, k2, k3, k4]
  refine q_nil ?_
  intro W_ hC_
  replace K := Aside.mk hC_
  clear hC_
  have z0 := Blk.cell (K.out.own _ (List.mem_cons_self ..)) 0 _ rfl
  have z1 := Blk.cell (K.out.own _ (List.mem_cons_self ..)) 1 _ rfl
  have z2 := Blk.cell (K.out.own _ (List.mem_cons_self ..)) 2 _ rfl
  have z3 := Blk.cell (K.out.own _ (List.mem_cons_self ..)) 3 _ rfl
  have z4 := Blk.cell (K.out.own _ (List.mem_cons_self ..)) 4 _ rfl
  have zl := Blk.lt (K.out.own _ (List.mem_cons_self ..))
  rcases hr with hr | ⟨hr, ll, hll, hlen, hp2, hb2, hz2⟩
  · go_wp2_with (first | (go_at_call 12; (with_reducible refine (print_bad_m c f1 f2 f3 _ n _ xs hx _ (hE.next K.out.low) (K.out.textm (by simp)) (fun s h => Nat.le_trans (HX.out s h) (by decide)) (by omega) (by omega) (by omega) (by omega) (by omega) (by omega) (by omega) 3 hr (by decide)).mono ?_); rintro e w4 ⟨rfl, hb⟩; replace K := Aside.mk (K.out.next hb); clear hb))
    go_ret
    exact ⟨rfl, K.out.low⟩
  · have Hz2 := Aside.mk hz2
    clear hz2
    go_wp2_with (first | (go_at_call 12; (with_reducible refine (print_ok_m c f1 f2 f3 _ n _ xs hx _ (hE.next K.out.low) (K.out.textm (by simp)) HX.out (by omega) (by omega) (by omega) (by omega) (by omega) (by omega) (by omega) (by omega) (by omega) (by omega) hr).mono ?_); rintro e w4 ⟨A4, c4, rfl, hs4, hb⟩; rw [hll] at hs4; replace K := Aside.mk ((K.out.next hb).str hs4); clear hb hs4; (try clear z0); (try clear z1); (try clear z2); (try clear z3); (try clear z4); (try clear zl); have z0 := Blk.cell (K.out.own _ (List.mem_cons_self ..)) 0 _ rfl; have z1 := Blk.cell (K.out.own _ (List.mem_cons_self ..)) 1 _ rfl; have z2 := Blk.cell (K.out.own _ (List.mem_cons_self ..)) 2 _ rfl; have z3 := Blk.cell (K.out.own _ (List.mem_cons_self ..)) 3 _ rfl; have z4 := Blk.cell (K.out.own _ (List.mem_cons_self ..)) 4 _ rfl; have zl := Blk.lt (K.out.own _ (List.mem_cons_self ..))) | (go_at_call 10; (with_reducible refine (parse_good_m ll _ n _ hlen n c f1 f2 f3 xs hp2 hb2 _ (hE.next K.out.low) (K.out.textm (by simp)) Hz2.out (by omega)).mono ?_); rintro e w5 ⟨A5, c5, rfl, hs5, hb⟩; replace K := Aside.mk ((K.out.next hb).str hs5); clear hb hs5; (try clear z0); (try clear z1); (try clear z2); (try clear z3); (try clear z4); (try clear zl); have z0 := Blk.cell (K.out.own _ (List.mem_cons_self ..)) 0 _ rfl; have z1 := Blk.cell (K.out.own _ (List.mem_cons_self ..)) 1 _ rfl; have z2 := Blk.cell (K.out.own _ (List.mem_cons_self ..)) 2 _ rfl; have z3 := Blk.cell (K.out.own _ (List.mem_cons_self ..)) 3 _ rfl; have z4 := Blk.cell (K.out.own _ (List.mem_cons_self ..)) 4 _ rfl; have zl := Blk.lt (K.out.own _ (List.mem_cons_self ..)); replace K : Aside (Kp w _ _ (w5.alloc (.cells #[.int .i64 c, .int .i64 f1, .int .i64 f2, .int .i64 f3, .slice A5 n c5] 25))) := ⟨K.out.alloc _⟩) | (go_at_call 14; (with_reducible refine (same_s c f1 f2 f3 _ _ n _ _ xs hx _ (K.out.textm (by simp)) (K.out.textm (by simp)) (by omega)).mono ?_); rintro e w6 ⟨rfl, hb⟩; replace K := Aside.mk (K.out.next hb); clear hb))
    go_ret
    exact ⟨rfl, K.out.low⟩
theorem again_any (w : World) (hE : Env w) (A : Option Addr) (cp : Nat) (t : List ByteArray) (hS : Strs w A t) (hl : t.length ≤ 9223372036854775807) (hs : ∀ s ∈ t, s.size ≤ 9223372036854775807) :
    Calls Tryd.prog 6 #[.slice A t.length cp] w fun e w' => e = .returned (.bool true) ∧ Below w.heap.size w w' := by
  cases hf : Rp.few t with
  | false => exact again_few A _ cp t rfl w hE hS hl hs hf
  | true =>
    obtain ⟨x, n, c, hp⟩ : ∃ x n c, Rp.prs 0 0 t = (x, n, c) := ⟨_, _, _, rfl⟩
    by_cases hx : x = 0
    · subst hx
      obtain ⟨f1, f2, f3, xs, hb⟩ : ∃ f1 f2 f3 xs, Rp.body c ((t.take n).map Rp.say) = ((f1, f2, f3), xs) := ⟨_, _, _, _, rfl⟩
      obtain ⟨⟨n1, n2, n3⟩, hxl, hxs, ⟨c1, c2⟩, ⟨q1, q2⟩, hf1, ⟨f20, f21⟩, ⟨f30, f31⟩, hr⟩ := Rp.again_plain hp hb (Rp.few_len hf).2
      by_cases h0 : f1 = 0
      · exact again_zero A _ cp t rfl w hE hS hl hs hf n c f1 f2 f3 xs hp hb n1 n2 n3 hxl hxs c1 c2 f20 f21 f30 f31 (by omega) (by omega) (decide_eq_false (by omega)) (decide_eq_false (by omega)) hr (by simpa using h0)
      · exact again_some A _ cp t rfl w hE hS hl hs hf n c f1 f2 f3 xs hp hb n1 n2 n3 hxl hxs c1 c2 f20 f21 f30 f31 (by omega) (by omega) (decide_eq_false (by omega)) (decide_eq_false (by omega)) hr (by simpa using h0) (by rcases hf1 with q | q; exact absurd q h0; simpa using q)
    · obtain ⟨rfl, rfl⟩ := Rp.prs_err t 0 0 x n c hp hx
      exact again_bad A _ cp t rfl w hE hS hl hs hf x hx hp
end Go.Proofs.YtfeedokfcebjjaaDoor
