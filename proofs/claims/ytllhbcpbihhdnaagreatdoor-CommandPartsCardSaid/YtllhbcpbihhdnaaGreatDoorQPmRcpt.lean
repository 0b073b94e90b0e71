/-
  Walks of the package param: RightRcpt.
-/
import Derived.Test.YtllhbcpbihhdnaaGreatDoorQPmTy
import Derived.Test.YtllhbcpbihhdnaaGreatDoorQ1
set_option linter.unusedVariables false
set_option linter.unusedSimpArgs false
namespace Go.Proofs.YtllhbcpbihhdnaaGreatDoor
open Go.RowKit
set_option maxRecDepth 100000
namespace Pm
abbrev ntNames : List ByteArray := [⟨#[]⟩, ⟨#[78]⟩, ⟨#[83]⟩, ⟨#[70]⟩, ⟨#[68]⟩, ⟨#[83, 70]⟩, ⟨#[83, 68]⟩, ⟨#[70, 68]⟩, ⟨#[83, 70, 68]⟩]
abbrev ntVals : Array Value := #[.string ⟨#[]⟩, .string ⟨#[78]⟩, .string ⟨#[83]⟩, .string ⟨#[70]⟩, .string ⟨#[68]⟩, .string ⟨#[83, 70]⟩, .string ⟨#[83, 68]⟩, .string ⟨#[70, 68]⟩, .string ⟨#[83, 70, 68]⟩]
/-- May a text tell a recipient's words? -/
def rightRcpt (nt kd oc : ByteArray) : Int :=
  if Lib.containsS [⟨#[]⟩, ⟨#[78]⟩, ⟨#[83]⟩, ⟨#[70]⟩, ⟨#[68]⟩, ⟨#[83, 70]⟩, ⟨#[83, 68]⟩, ⟨#[70, 68]⟩, ⟨#[83, 70, 68]⟩] nt = false then 2
  else if (empty kd != empty oc) = true ∨ (empty kd = false ∧ (typed kd.data.toList = false ∨ (⟨(Txt.upper kd.data.toList).toArray⟩ : ByteArray) ≠ kd)) then 2
  else if 256 < (oc.size : Int) then 3 else 0
end Pm
theorem contains_fresh (s : ByteArray) (zs : List ByteArray) (cs : Array Value) (hcs : cs = (zs.map Value.string).toArray) (n : Nat) (hz : zs.length = n) (hn : n ≤ 1000) (r : Bool) (hr : Lib.containsS zs s = r) (W : World) (bb : Nat) (hb : W.heap.size = bb) :
    Calls Tryz.prog 25 #[.slice (some ⟨bb, 0, none⟩) n n, .string s] (W.alloc (.cells cs 9)) fun e w' => e = .returned (.bool r) ∧ Below W.heap.size W w' := by
  subst hcs hz hr hb
  have h0 : (W.alloc (.cells (zs.map Value.string).toArray 9)).heap[W.heap.size]? = some (.cells (zs.map Value.string).toArray 9 (0, 0)) := heap_alloc_new W _
  have h := Tryz.slices_Contains_string W.heap.size 0 zs.length zs.length zs s (W.alloc (.cells (zs.map Value.string).toArray 9)) (Nat.le_refl _) (by omega) (fun j hj => by
    unfold World.cell?
    simp only [h0]
    simp [hj, List.getD_eq_getElem?_getD])
  rw [List.take_of_length_le (Nat.le_refl _)] at h
  exact h.mono fun _ _ ⟨h1, h2⟩ => ⟨h1, h2 ▸ (Below.refl _ _).alloc (Nat.le_refl _) _⟩
set_option maxHeartbeats 4000000 in
theorem rr_A (nt kd oc : ByteArray) (hcon : Lib.containsS [⟨#[]⟩, ⟨#[78]⟩, ⟨#[83]⟩, ⟨#[70]⟩, ⟨#[68]⟩, ⟨#[83, 70]⟩, ⟨#[83, 68]⟩, ⟨#[70, 68]⟩, ⟨#[83, 70, 68]⟩] nt = false) (w : World) (hk : kd.size ≤ 1000000000) : Calls Tryz.prog 76 #[.agg #[.string nt, .string kd, .string oc]] w fun e w' => e = .returned (.int .i64 2) ∧ Below w.heap.size w w' := by
  have M : Aside (Mine w [(w.heap.size, #[.string nt, .string kd, .string oc], 29)] (w.alloc (.cells #[.string nt, .string kd, .string oc] 29))) := ⟨(Mine.start w).alloc #[.string nt, .string kd, .string oc] 29⟩
  have HC := Lib.hid (show (#[.string ⟨#[]⟩, .string ⟨#[78]⟩, .string ⟨#[83]⟩, .string ⟨#[70]⟩, .string ⟨#[68]⟩, .string ⟨#[83, 70]⟩, .string ⟨#[83, 68]⟩, .string ⟨#[70, 68]⟩, .string ⟨#[83, 70, 68]⟩] : Array Value) = (([⟨#[]⟩, ⟨#[78]⟩, ⟨#[83]⟩, ⟨#[70]⟩, ⟨#[68]⟩, ⟨#[83, 70]⟩, ⟨#[83, 68]⟩, ⟨#[70, 68]⟩, ⟨#[83, 70, 68]⟩] : List ByteArray).map Value.string).toArray from rfl)
  have hty := fun W => typed_any kd W (by omega)
  have hup := fun W => param_upper kd W (by omega)
  go_enter Tryz.func76, Tryz.ntmps76
  go_wp2_with (first | (go_at_call 25; (with_reducible refine (contains_fresh nt [⟨#[]⟩, ⟨#[78]⟩, ⟨#[83]⟩, ⟨#[70]⟩, ⟨#[68]⟩, ⟨#[83, 70]⟩, ⟨#[83, 68]⟩, ⟨#[70, 68]⟩, ⟨#[83, 70, 68]⟩] #[.string ⟨#[]⟩, .string ⟨#[78]⟩, .string ⟨#[83]⟩, .string ⟨#[70]⟩, .string ⟨#[68]⟩, .string ⟨#[83, 70]⟩, .string ⟨#[83, 68]⟩, .string ⟨#[70, 68]⟩, .string ⟨#[83, 70, 68]⟩] HC.out 9 (show List.length _ = _ from rfl) (by decide) _ hcon (w.alloc (.cells #[.string nt, .string kd, .string oc] 29)) (w.heap.size + 1) (by simp)).mono ?_); rintro e W1 ⟨rfl, hb⟩; replace M := Aside.mk (M.out.next hb); clear hb; have z0 := Mine.at M.out 0 _ rfl; have z1 := Mine.at M.out 1 _ rfl; have z2 := Mine.at M.out 2 _ rfl; have zl := Mine.lt M.out))
  go_ret
  exact ⟨rfl, M.out.low⟩
set_option maxHeartbeats 16000000 in
theorem rr_all (nt kd oc : ByteArray) (hcon : Lib.containsS Pm.ntNames nt = true) (ty : Bool) (rty : Pm.typed kd.data.toList = ty) (uu : ByteArray) (ru : (⟨(Txt.upper kd.data.toList).toArray⟩ : ByteArray) = uu) (res : Int) (hc : (kd.toList == []) = true ∧ (kd.toList != []) = false ∧ (oc.toList == []) = false ∧ res = 2 ∨ (kd.toList == []) = false ∧ (kd.toList != []) = true ∧ (oc.toList == []) = true ∧ res = 2 ∨ (kd.toList == []) = true ∧ (kd.toList != []) = false ∧ (oc.toList == []) = true ∧ (256 : Int) < (oc.size : Int) ∧ res = 3 ∨ (kd.toList == []) = true ∧ (kd.toList != []) = false ∧ (oc.toList == []) = true ∧ ¬ (256 : Int) < (oc.size : Int) ∧ res = 0 ∨ (kd.toList == []) = false ∧ (kd.toList != []) = true ∧ (oc.toList == []) = false ∧ ty = false ∧ res = 2 ∨ (kd.toList == []) = false ∧ (kd.toList != []) = true ∧ (oc.toList == []) = false ∧ ty = true ∧ (uu.toList == kd.toList) = false ∧ (uu.toList != kd.toList) = true ∧ res = 2 ∨ (kd.toList == []) = false ∧ (kd.toList != []) = true ∧ (oc.toList == []) = false ∧ ty = true ∧ (uu.toList == kd.toList) = true ∧ (uu.toList != kd.toList) = false ∧ (256 : Int) < (oc.size : Int) ∧ res = 3 ∨ (kd.toList == []) = false ∧ (kd.toList != []) = true ∧ (oc.toList == []) = false ∧ ty = true ∧ (uu.toList == kd.toList) = true ∧ (uu.toList != kd.toList) = false ∧ ¬ (256 : Int) < (oc.size : Int) ∧ res = 0) (w : World) (hk : kd.size ≤ 1000000000) : Calls Tryz.prog 76 #[.agg #[.string nt, .string kd, .string oc]] w fun e w' => e = .returned (.int .i64 res) ∧ Below w.heap.size w w' := by
  have M : Aside (Mine w [(w.heap.size, #[.string nt, .string kd, .string oc], 29)] (w.alloc (.cells #[.string nt, .string kd, .string oc] 29))) := ⟨(Mine.start w).alloc #[.string nt, .string kd, .string oc] 29⟩
  have HC := Lib.hid (show (Pm.ntVals : Array Value) = ((Pm.ntNames : List ByteArray).map Value.string).toArray from rfl)
  have hty := fun W => typed_any kd W (by omega)
  have hup := fun W => param_upper kd W (by omega)
  rw [rty] at hty
  rw [ru] at hup
  have HCA := Aside.mk hc
  clear hc
  go_enter Tryz.func76, Tryz.ntmps76
  go_wp2_with (first | (go_at_call 25; (with_reducible refine (contains_fresh nt Pm.ntNames Pm.ntVals HC.out 9 (show List.length _ = _ from rfl) (by decide) _ hcon (w.alloc (.cells #[.string nt, .string kd, .string oc] 29)) (w.heap.size + 1) (by simp)).mono ?_); rintro e W1 ⟨rfl, hb⟩; replace M := Aside.mk (M.out.next hb); clear hb; have z0 := Mine.at M.out 0 _ rfl; have z1 := Mine.at M.out 1 _ rfl; have z2 := Mine.at M.out 2 _ rfl; have zl := Mine.lt M.out))
  clear hcon
  have hc := HCA.out
  clear HCA
  rcases hc with ⟨e1, e1', e2, rfl⟩ | ⟨e1, e1', e2, rfl⟩ | ⟨e1, e1', e2, hz, rfl⟩ | ⟨e1, e1', e2, hz, rfl⟩ | ⟨e1, e1', e2, ety, rfl⟩ | ⟨e1, e1', e2, ety, e3, e4, rfl⟩ | ⟨e1, e1', e2, ety, e3, e4, hz, rfl⟩ | ⟨e1, e1', e2, ety, e3, e4, hz, rfl⟩
  all_goals
    first | (have := ety) | (have ety := e1)
    first | (have := e3) | (have e3 := e1)
    first | (have := e4) | (have e4 := e1)
    refine region_class (C := (fun w' => Mine w [(w.heap.size, #[.string nt, .string kd, .string oc], 29)] w')) (by kernel_rfl) (by kernel_rfl) (M.out.drewN 1) ?_
    refine q_run ?_ ?_ ?_ ?_
    · kernel_rfl
    rotate_left
    · intro w_ hw_
      have c0 := Mine.at hw_ 0 _ rfl
      have c1 := Mine.at hw_ 1 _ rfl
      have c2 := Mine.at hw_ 2 _ rfl
      have cl := Mine.lt hw_
      first | (go_simp; done) | (go_simp; with_reducible rfl) | (go_simp; rw [if_neg (by first | omega | (simp; omega))])
    try simp only [Act.put, List.setIfInBounds_toArray, List.set_cons_zero, List.set_cons_succ]
    try simp only [e1, e1', e2, ety, e3, e4]
    refine q_run ?_ ?_ ?_ ?_
    · kernel_rfl
    rotate_left
    · intro w_ hw_
      have c0 := Mine.at hw_ 0 _ rfl
      have c1 := Mine.at hw_ 1 _ rfl
      have c2 := Mine.at hw_ 2 _ rfl
      have cl := Mine.lt hw_
      first | (go_simp; done) | (go_simp; with_reducible rfl) | (go_simp; rw [if_neg (by first | omega | (simp; omega))])
    try simp only [Act.put, List.setIfInBounds_toArray, List.set_cons_zero, List.set_cons_succ]
    try simp only [e1, e1', e2, ety, e3, e4]
    refine q_run ?_ ?_ ?_ ?_
    · kernel_rfl
    rotate_left
    · intro w_ hw_
      have c0 := Mine.at hw_ 0 _ rfl
      have c1 := Mine.at hw_ 1 _ rfl
      have c2 := Mine.at hw_ 2 _ rfl
      have cl := Mine.lt hw_
      first | (go_simp; done) | (go_simp; with_reducible rfl) | (go_simp; rw [if_neg (by first | omega | (simp; omega))])
    try simp only [Act.put, List.setIfInBounds_toArray, List.set_cons_zero, List.set_cons_succ]
    try simp only [e1, e1', e2, ety, e3, e4]
    refine q_run ?_ ?_ ?_ ?_
    · kernel_rfl
    rotate_left
    · intro w_ hw_
      have c0 := Mine.at hw_ 0 _ rfl
      have c1 := Mine.at hw_ 1 _ rfl
      have c2 := Mine.at hw_ 2 _ rfl
      have cl := Mine.lt hw_
      first | (go_simp; done) | (go_simp; with_reducible rfl) | (go_simp; rw [if_neg (by first | omega | (simp; omega))])
    try simp only [Act.put, List.setIfInBounds_toArray, List.set_cons_zero, List.set_cons_succ]
    try simp only [e1, e1', e2, ety, e3, e4]
    refine q_run ?_ ?_ ?_ ?_
    · kernel_rfl
    rotate_left
    · intro w_ hw_
      have c0 := Mine.at hw_ 0 _ rfl
      have c1 := Mine.at hw_ 1 _ rfl
      have c2 := Mine.at hw_ 2 _ rfl
      have cl := Mine.lt hw_
      first | (go_simp; done) | (go_simp; with_reducible rfl) | (go_simp; rw [if_neg (by first | omega | (simp; omega))])
    try simp only [Act.put, List.setIfInBounds_toArray, List.set_cons_zero, List.set_cons_succ]
    try simp only [e1, e1', e2, ety, e3, e4]
    refine q_run ?_ ?_ ?_ ?_
    · kernel_rfl
    rotate_left
    · intro w_ hw_
      have c0 := Mine.at hw_ 0 _ rfl
      have c1 := Mine.at hw_ 1 _ rfl
      have c2 := Mine.at hw_ 2 _ rfl
      have cl := Mine.lt hw_
      first | (go_simp; done) | (go_simp; with_reducible rfl) | (go_simp; rw [if_neg (by first | omega | (simp; omega))])
    try simp only [Act.put, List.setIfInBounds_toArray, List.set_cons_zero, List.set_cons_succ]
    try simp only [e1, e1', e2, ety, e3, e4]
    refine q_run ?_ ?_ ?_ ?_
    · kernel_rfl
    rotate_left
    · intro w_ hw_
      have c0 := Mine.at hw_ 0 _ rfl
      have c1 := Mine.at hw_ 1 _ rfl
      have c2 := Mine.at hw_ 2 _ rfl
      have cl := Mine.lt hw_
      first | (go_simp; done) | (go_simp; with_reducible rfl) | (go_simp; rw [if_neg (by first | omega | (simp; omega))])
    try simp only [Act.put, List.setIfInBounds_toArray, List.set_cons_zero, List.set_cons_succ]
    try simp only [e1, e1', e2, ety, e3, e4]
    refine q_run ?_ ?_ ?_ ?_
    · kernel_rfl
    rotate_left
    · intro w_ hw_
      have c0 := Mine.at hw_ 0 _ rfl
      have c1 := Mine.at hw_ 1 _ rfl
      have c2 := Mine.at hw_ 2 _ rfl
      have cl := Mine.lt hw_
      first | (go_simp; done) | (go_simp; with_reducible rfl) | (go_simp; rw [if_neg (by first | omega | (simp; omega))])
    try simp only [Act.put, List.setIfInBounds_toArray, List.set_cons_zero, List.set_cons_succ]
    try simp only [e1, e1', e2, ety, e3, e4]
    first
     | (refine q_skip ?_ ?_
        · rfl)
     | (refine q_run ?_ ?_ ?_ ?_
        · kernel_rfl
        rotate_left
        · intro w_ hw_
          have c0 := Mine.at hw_ 0 _ rfl
          have c1 := Mine.at hw_ 1 _ rfl
          have c2 := Mine.at hw_ 2 _ rfl
          have cl := Mine.lt hw_
          first | (go_simp; done) | (go_simp; with_reducible rfl) | (go_simp; rw [if_neg (by first | omega | (simp; omega))]))
    try simp only [Act.put, List.setIfInBounds_toArray, List.set_cons_zero, List.set_cons_succ]
    try simp only [e1, e1', e2, ety, e3, e4]
    first
     | (refine q_skip ?_ ?_
        · rfl)
     | (refine q_run ?_ ?_ ?_ ?_
        · kernel_rfl
        rotate_left
        · intro w_ hw_
          have c0 := Mine.at hw_ 0 _ rfl
          have c1 := Mine.at hw_ 1 _ rfl
          have c2 := Mine.at hw_ 2 _ rfl
          have cl := Mine.lt hw_
          first | (go_simp; done) | (go_simp; with_reducible rfl) | (go_simp; rw [if_neg (by first | omega | (simp; omega))]))
    try simp only [Act.put, List.setIfInBounds_toArray, List.set_cons_zero, List.set_cons_succ]
    try simp only [e1, e1', e2, ety, e3, e4]
    first
     | (refine q_skip ?_ ?_
        · rfl)
     | (refine q_run ?_ ?_ ?_ ?_
        · kernel_rfl
        rotate_left
        · intro w_ hw_
          have c0 := Mine.at hw_ 0 _ rfl
          have c1 := Mine.at hw_ 1 _ rfl
          have c2 := Mine.at hw_ 2 _ rfl
          have cl := Mine.lt hw_
          first | (go_simp; done) | (go_simp; with_reducible rfl) | (go_simp; rw [if_neg (by first | omega | (simp; omega))]))
    try simp only [Act.put, List.setIfInBounds_toArray, List.set_cons_zero, List.set_cons_succ]
    try simp only [e1, e1', e2, ety, e3, e4]
    first
     | (refine q_skip ?_ ?_
        · rfl)
     | (refine q_run ?_ ?_ ?_ ?_
        · kernel_rfl
        rotate_left
        · intro w_ hw_
          have c0 := Mine.at hw_ 0 _ rfl
          have c1 := Mine.at hw_ 1 _ rfl
          have c2 := Mine.at hw_ 2 _ rfl
          have cl := Mine.lt hw_
          first | (go_simp; done) | (go_simp; with_reducible rfl) | (go_simp; rw [if_neg (by first | omega | (simp; omega))]))
    try simp only [Act.put, List.setIfInBounds_toArray, List.set_cons_zero, List.set_cons_succ]
    try simp only [e1, e1', e2, ety, e3, e4]
    first
     | (refine q_skip ?_ ?_
        · rfl)
     | (refine q_run ?_ ?_ ?_ ?_
        · kernel_rfl
        rotate_left
        · intro w_ hw_
          have c0 := Mine.at hw_ 0 _ rfl
          have c1 := Mine.at hw_ 1 _ rfl
          have c2 := Mine.at hw_ 2 _ rfl
          have cl := Mine.lt hw_
          first | (go_simp; done) | (go_simp; with_reducible rfl) | (go_simp; rw [if_neg (by first | omega | (simp; omega))]))
    try simp only [Act.put, List.setIfInBounds_toArray, List.set_cons_zero, List.set_cons_succ]
    try simp only [e1, e1', e2, ety, e3, e4]
    first
     | (refine q_skip ?_ ?_
        · rfl)
     | (refine q_run ?_ ?_ ?_ ?_
        · kernel_rfl
        rotate_left
        · intro w_ hw_
          have c0 := Mine.at hw_ 0 _ rfl
          have c1 := Mine.at hw_ 1 _ rfl
          have c2 := Mine.at hw_ 2 _ rfl
          have cl := Mine.lt hw_
          first | (go_simp; done) | (go_simp; with_reducible rfl) | (go_simp; rw [if_neg (by first | omega | (simp; omega))]))
    try simp only [Act.put, List.setIfInBounds_toArray, List.set_cons_zero, List.set_cons_succ]
    try simp only [e1, e1', e2, ety, e3, e4]
    first
     | (refine q_skip ?_ ?_
        · rfl)
     | (refine q_call ?_ (.bool ty) ?_ ?_ ?_ ?_ ?_
        · kernel_rfl
        rotate_left 2
        · intro w_ hw_
          go_simp
          refine ⟨?_, ?_⟩ <;> with_reducible rfl
        · intro w_ hw_
          have c0 := Mine.at hw_ 0 _ rfl
          have c1 := Mine.at hw_ 1 _ rfl
          have c2 := Mine.at hw_ 2 _ rfl
          have cl := Mine.lt hw_
          exact (hty _).mono fun _ _ ⟨h1_, h2_⟩ => ⟨h1_, hw_.next h2_⟩)
    try simp only [Act.put, List.setIfInBounds_toArray, List.set_cons_zero, List.set_cons_succ]
    try simp only [e1, e1', e2, ety, e3, e4]
    first
     | (refine q_skip ?_ ?_
        · rfl)
     | (refine q_run ?_ ?_ ?_ ?_
        · kernel_rfl
        rotate_left
        · intro w_ hw_
          have c0 := Mine.at hw_ 0 _ rfl
          have c1 := Mine.at hw_ 1 _ rfl
          have c2 := Mine.at hw_ 2 _ rfl
          have cl := Mine.lt hw_
          first | (go_simp; done) | (go_simp; with_reducible rfl) | (go_simp; rw [if_neg (by first | omega | (simp; omega))]))
    try simp only [Act.put, List.setIfInBounds_toArray, List.set_cons_zero, List.set_cons_succ]
    try simp only [e1, e1', e2, ety, e3, e4]
    first
     | (refine q_skip ?_ ?_
        · rfl)
     | (refine q_run ?_ ?_ ?_ ?_
        · kernel_rfl
        rotate_left
        · intro w_ hw_
          have c0 := Mine.at hw_ 0 _ rfl
          have c1 := Mine.at hw_ 1 _ rfl
          have c2 := Mine.at hw_ 2 _ rfl
          have cl := Mine.lt hw_
          first | (go_simp; done) | (go_simp; with_reducible rfl) | (go_simp; rw [if_neg (by first | omega | (simp; omega))]))
    try simp only [Act.put, List.setIfInBounds_toArray, List.set_cons_zero, List.set_cons_succ]
    try simp only [e1, e1', e2, ety, e3, e4]
    first
     | (refine q_skip ?_ ?_
        · rfl)
     | (refine q_run ?_ ?_ ?_ ?_
        · kernel_rfl
        rotate_left
        · intro w_ hw_
          have c0 := Mine.at hw_ 0 _ rfl
          have c1 := Mine.at hw_ 1 _ rfl
          have c2 := Mine.at hw_ 2 _ rfl
          have cl := Mine.lt hw_
          first | (go_simp; done) | (go_simp; with_reducible rfl) | (go_simp; rw [if_neg (by first | omega | (simp; omega))]))
    try simp only [Act.put, List.setIfInBounds_toArray, List.set_cons_zero, List.set_cons_succ]
    try simp only [e1, e1', e2, ety, e3, e4]
    first
     | (refine q_skip ?_ ?_
        · rfl)
     | (refine q_run ?_ ?_ ?_ ?_
        · kernel_rfl
        rotate_left
        · intro w_ hw_
          have c0 := Mine.at hw_ 0 _ rfl
          have c1 := Mine.at hw_ 1 _ rfl
          have c2 := Mine.at hw_ 2 _ rfl
          have cl := Mine.lt hw_
          first | (go_simp; done) | (go_simp; with_reducible rfl) | (go_simp; rw [if_neg (by first | omega | (simp; omega))]))
    try simp only [Act.put, List.setIfInBounds_toArray, List.set_cons_zero, List.set_cons_succ]
    try simp only [e1, e1', e2, ety, e3, e4]
    first
     | (refine q_skip ?_ ?_
        · rfl)
     | (refine q_call ?_ (.string uu) ?_ ?_ ?_ ?_ ?_
        · kernel_rfl
        rotate_left 2
        · intro w_ hw_
          go_simp
          refine ⟨?_, ?_⟩ <;> with_reducible rfl
        · intro w_ hw_
          have c0 := Mine.at hw_ 0 _ rfl
          have c1 := Mine.at hw_ 1 _ rfl
          have c2 := Mine.at hw_ 2 _ rfl
          have cl := Mine.lt hw_
          exact (hup _).mono fun _ _ ⟨h1_, h2_⟩ => ⟨h1_, hw_.next h2_⟩)
    try simp only [Act.put, List.setIfInBounds_toArray, List.set_cons_zero, List.set_cons_succ]
    try simp only [e1, e1', e2, ety, e3, e4]
    first
     | (refine q_skip ?_ ?_
        · rfl)
     | (refine q_run ?_ ?_ ?_ ?_
        · kernel_rfl
        rotate_left
        · intro w_ hw_
          have c0 := Mine.at hw_ 0 _ rfl
          have c1 := Mine.at hw_ 1 _ rfl
          have c2 := Mine.at hw_ 2 _ rfl
          have cl := Mine.lt hw_
          first | (go_simp; done) | (go_simp; with_reducible rfl) | (go_simp; rw [if_neg (by first | omega | (simp; omega))]))
    try simp only [Act.put, List.setIfInBounds_toArray, List.set_cons_zero, List.set_cons_succ]
    try simp only [e1, e1', e2, ety, e3, e4]
    first
     | (refine q_skip ?_ ?_
        · rfl)
     | (refine q_run ?_ ?_ ?_ ?_
        · kernel_rfl
        rotate_left
        · intro w_ hw_
          have c0 := Mine.at hw_ 0 _ rfl
          have c1 := Mine.at hw_ 1 _ rfl
          have c2 := Mine.at hw_ 2 _ rfl
          have cl := Mine.lt hw_
          first | (go_simp; done) | (go_simp; with_reducible rfl) | (go_simp; rw [if_neg (by first | omega | (simp; omega))]))
    try simp only [Act.put, List.setIfInBounds_toArray, List.set_cons_zero, List.set_cons_succ]
    try simp only [e1, e1', e2, ety, e3, e4]
    first
     | (refine q_skip ?_ ?_
        · rfl)
     | (refine q_run ?_ ?_ ?_ ?_
        · kernel_rfl
        rotate_left
        · intro w_ hw_
          have c0 := Mine.at hw_ 0 _ rfl
          have c1 := Mine.at hw_ 1 _ rfl
          have c2 := Mine.at hw_ 2 _ rfl
          have cl := Mine.lt hw_
          first | (go_simp; done) | (go_simp; with_reducible rfl) | (go_simp; rw [if_neg (by first | omega | (simp; omega))]))
    try simp only [Act.put, List.setIfInBounds_toArray, List.set_cons_zero, List.set_cons_succ]
    try simp only [e1, e1', e2, ety, e3, e4]
    first
     | (refine q_skip ?_ ?_
        · rfl)
     | (refine q_run ?_ ?_ ?_ ?_
        · kernel_rfl
        rotate_left
        · intro w_ hw_
          have c0 := Mine.at hw_ 0 _ rfl
          have c1 := Mine.at hw_ 1 _ rfl
          have c2 := Mine.at hw_ 2 _ rfl
          have cl := Mine.lt hw_
          first | (go_simp; done) | (go_simp; with_reducible rfl) | (go_simp; rw [if_neg (by first | omega | (simp; omega))]))
    try simp only [Act.put, List.setIfInBounds_toArray, List.set_cons_zero, List.set_cons_succ]
    try simp only [e1, e1', e2, ety, e3, e4]
    first
     | (refine q_skip ?_ ?_
        · rfl)
     | (refine q_run ?_ ?_ ?_ ?_
        · kernel_rfl
        rotate_left
        · intro w_ hw_
          have c0 := Mine.at hw_ 0 _ rfl
          have c1 := Mine.at hw_ 1 _ rfl
          have c2 := Mine.at hw_ 2 _ rfl
          have cl := Mine.lt hw_
          first | (go_simp; done) | (go_simp; with_reducible rfl) | (go_simp; rw [if_neg (by first | omega | (simp; omega))]))
    try simp only [Act.put, List.setIfInBounds_toArray, List.set_cons_zero, List.set_cons_succ]
    try simp only [e1, e1', e2, ety, e3, e4]
    refine q_run ?_ ?_ ?_ ?_
    · kernel_rfl
    rotate_left
    · intro w_ hw_
      have c0 := Mine.at hw_ 0 _ rfl
      have c1 := Mine.at hw_ 1 _ rfl
      have c2 := Mine.at hw_ 2 _ rfl
      have cl := Mine.lt hw_
      first | (go_simp; done) | (go_simp; with_reducible rfl) | (go_simp; rw [if_neg (by first | omega | (simp; omega))])
    try simp only [Act.put, List.setIfInBounds_toArray, List.set_cons_zero, List.set_cons_succ]
    try simp only [e1, e1', e2, ety, e3, e4]
    refine q_run ?_ ?_ ?_ ?_
    · kernel_rfl
    rotate_left
    · intro w_ hw_
      have c0 := Mine.at hw_ 0 _ rfl
      have c1 := Mine.at hw_ 1 _ rfl
      have c2 := Mine.at hw_ 2 _ rfl
      have cl := Mine.lt hw_
      first | (go_simp; done) | (go_simp; with_reducible rfl) | (go_simp; rw [if_neg (by first | omega | (simp; omega))])
    try simp only [Act.put, List.setIfInBounds_toArray, List.set_cons_zero, List.set_cons_succ]
    try simp only [e1, e1', e2, ety, e3, e4]
    refine q_nil ?_
    intro W_ hC_
    replace M := Aside.mk hC_
    clear hC_ z0 z1 z2 zl
    have z0 := Mine.at M.out 0 _ rfl
    have z1 := Mine.at M.out 1 _ rfl
    have z2 := Mine.at M.out 2 _ rfl
    have zl := Mine.lt M.out
    go_wp2
    go_ret
    exact ⟨rfl, M.out.low⟩
theorem rr_B1 (nt kd oc : ByteArray) (hcon : Lib.containsS [⟨#[]⟩, ⟨#[78]⟩, ⟨#[83]⟩, ⟨#[70]⟩, ⟨#[68]⟩, ⟨#[83, 70]⟩, ⟨#[83, 68]⟩, ⟨#[70, 68]⟩, ⟨#[83, 70, 68]⟩] nt = true) (e1 : (kd.toList == []) = true) (e1' : (kd.toList != []) = false) (e2 : (oc.toList == []) = false)  (w : World) (hk : kd.size ≤ 1000000000) : Calls Tryz.prog 76 #[.agg #[.string nt, .string kd, .string oc]] w fun e w' => e = .returned (.int .i64 2) ∧ Below w.heap.size w w' := rr_all nt kd oc hcon _ rfl _ rfl 2 (.inl ⟨e1, e1', e2, rfl⟩) w hk
theorem rr_B2 (nt kd oc : ByteArray) (hcon : Lib.containsS [⟨#[]⟩, ⟨#[78]⟩, ⟨#[83]⟩, ⟨#[70]⟩, ⟨#[68]⟩, ⟨#[83, 70]⟩, ⟨#[83, 68]⟩, ⟨#[70, 68]⟩, ⟨#[83, 70, 68]⟩] nt = true) (e1 : (kd.toList == []) = false) (e1' : (kd.toList != []) = true) (e2 : (oc.toList == []) = true)  (w : World) (hk : kd.size ≤ 1000000000) : Calls Tryz.prog 76 #[.agg #[.string nt, .string kd, .string oc]] w fun e w' => e = .returned (.int .i64 2) ∧ Below w.heap.size w w' := rr_all nt kd oc hcon _ rfl _ rfl 2 (.inr (.inl ⟨e1, e1', e2, rfl⟩)) w hk
theorem rr_Cs (nt kd oc : ByteArray) (hcon : Lib.containsS [⟨#[]⟩, ⟨#[78]⟩, ⟨#[83]⟩, ⟨#[70]⟩, ⟨#[68]⟩, ⟨#[83, 70]⟩, ⟨#[83, 68]⟩, ⟨#[70, 68]⟩, ⟨#[83, 70, 68]⟩] nt = true) (e1 : (kd.toList == []) = true) (e1' : (kd.toList != []) = false) (e2 : (oc.toList == []) = true) (hz : (256 : Int) < (oc.size : Int)) (w : World) (hk : kd.size ≤ 1000000000) : Calls Tryz.prog 76 #[.agg #[.string nt, .string kd, .string oc]] w fun e w' => e = .returned (.int .i64 3) ∧ Below w.heap.size w w' := rr_all nt kd oc hcon _ rfl _ rfl 3 (.inr (.inr (.inl ⟨e1, e1', e2, hz, rfl⟩))) w hk
theorem rr_Co (nt kd oc : ByteArray) (hcon : Lib.containsS [⟨#[]⟩, ⟨#[78]⟩, ⟨#[83]⟩, ⟨#[70]⟩, ⟨#[68]⟩, ⟨#[83, 70]⟩, ⟨#[83, 68]⟩, ⟨#[70, 68]⟩, ⟨#[83, 70, 68]⟩] nt = true) (e1 : (kd.toList == []) = true) (e1' : (kd.toList != []) = false) (e2 : (oc.toList == []) = true) (hz : ¬ (256 : Int) < (oc.size : Int)) (w : World) (hk : kd.size ≤ 1000000000) : Calls Tryz.prog 76 #[.agg #[.string nt, .string kd, .string oc]] w fun e w' => e = .returned (.int .i64 0) ∧ Below w.heap.size w w' := rr_all nt kd oc hcon _ rfl _ rfl 0 (.inr (.inr (.inr (.inl ⟨e1, e1', e2, hz, rfl⟩)))) w hk
theorem rr_D1 (nt kd oc : ByteArray) (hcon : Lib.containsS [⟨#[]⟩, ⟨#[78]⟩, ⟨#[83]⟩, ⟨#[70]⟩, ⟨#[68]⟩, ⟨#[83, 70]⟩, ⟨#[83, 68]⟩, ⟨#[70, 68]⟩, ⟨#[83, 70, 68]⟩] nt = true) (e1 : (kd.toList == []) = false) (e1' : (kd.toList != []) = true) (e2 : (oc.toList == []) = false) (rty : Pm.typed kd.data.toList = false) (w : World) (hk : kd.size ≤ 1000000000) : Calls Tryz.prog 76 #[.agg #[.string nt, .string kd, .string oc]] w fun e w' => e = .returned (.int .i64 2) ∧ Below w.heap.size w w' := rr_all nt kd oc hcon _ rty _ rfl 2 (.inr (.inr (.inr (.inr (.inl ⟨e1, e1', e2, rfl, rfl⟩))))) w hk
theorem rr_D2 (nt kd oc : ByteArray) (hcon : Lib.containsS [⟨#[]⟩, ⟨#[78]⟩, ⟨#[83]⟩, ⟨#[70]⟩, ⟨#[68]⟩, ⟨#[83, 70]⟩, ⟨#[83, 68]⟩, ⟨#[70, 68]⟩, ⟨#[83, 70, 68]⟩] nt = true) (e1 : (kd.toList == []) = false) (e1' : (kd.toList != []) = true) (e2 : (oc.toList == []) = false) (rty : Pm.typed kd.data.toList = true) (uu : ByteArray) (ru : (⟨(Txt.upper kd.data.toList).toArray⟩ : ByteArray) = uu) (e3 : (uu.toList == kd.toList) = false) (e4 : (uu.toList != kd.toList) = true) (w : World) (hk : kd.size ≤ 1000000000) : Calls Tryz.prog 76 #[.agg #[.string nt, .string kd, .string oc]] w fun e w' => e = .returned (.int .i64 2) ∧ Below w.heap.size w w' := rr_all nt kd oc hcon _ rty _ ru 2 (.inr (.inr (.inr (.inr (.inr (.inl ⟨e1, e1', e2, rfl, e3, e4, rfl⟩)))))) w hk
theorem rr_Ds (nt kd oc : ByteArray) (hcon : Lib.containsS [⟨#[]⟩, ⟨#[78]⟩, ⟨#[83]⟩, ⟨#[70]⟩, ⟨#[68]⟩, ⟨#[83, 70]⟩, ⟨#[83, 68]⟩, ⟨#[70, 68]⟩, ⟨#[83, 70, 68]⟩] nt = true) (e1 : (kd.toList == []) = false) (e1' : (kd.toList != []) = true) (e2 : (oc.toList == []) = false) (rty : Pm.typed kd.data.toList = true) (uu : ByteArray) (ru : (⟨(Txt.upper kd.data.toList).toArray⟩ : ByteArray) = uu) (e3 : (uu.toList == kd.toList) = true) (e4 : (uu.toList != kd.toList) = false) (hz : (256 : Int) < (oc.size : Int)) (w : World) (hk : kd.size ≤ 1000000000) : Calls Tryz.prog 76 #[.agg #[.string nt, .string kd, .string oc]] w fun e w' => e = .returned (.int .i64 3) ∧ Below w.heap.size w w' := rr_all nt kd oc hcon _ rty _ ru 3 (.inr (.inr (.inr (.inr (.inr (.inr (.inl ⟨e1, e1', e2, rfl, e3, e4, hz, rfl⟩))))))) w hk
theorem rr_Do (nt kd oc : ByteArray) (hcon : Lib.containsS [⟨#[]⟩, ⟨#[78]⟩, ⟨#[83]⟩, ⟨#[70]⟩, ⟨#[68]⟩, ⟨#[83, 70]⟩, ⟨#[83, 68]⟩, ⟨#[70, 68]⟩, ⟨#[83, 70, 68]⟩] nt = true) (e1 : (kd.toList == []) = false) (e1' : (kd.toList != []) = true) (e2 : (oc.toList == []) = false) (rty : Pm.typed kd.data.toList = true) (uu : ByteArray) (ru : (⟨(Txt.upper kd.data.toList).toArray⟩ : ByteArray) = uu) (e3 : (uu.toList == kd.toList) = true) (e4 : (uu.toList != kd.toList) = false) (hz : ¬ (256 : Int) < (oc.size : Int)) (w : World) (hk : kd.size ≤ 1000000000) : Calls Tryz.prog 76 #[.agg #[.string nt, .string kd, .string oc]] w fun e w' => e = .returned (.int .i64 0) ∧ Below w.heap.size w w' := rr_all nt kd oc hcon _ rty _ ru 0 (.inr (.inr (.inr (.inr (.inr (.inr (.inr ⟨e1, e1', e2, rfl, e3, e4, hz, rfl⟩))))))) w hk
end Go.Proofs.YtllhbcpbihhdnaaGreatDoor
