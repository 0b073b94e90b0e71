/-
  Walks of the reference of replies: Class, none, digits of a number.
-/
import Derived.Test.YtfeedokfcebjjaaDoorRpFit
import Derived.Test.YtfeedokfcebjjaaDoorRpShown
import Derived.Deep.RegionHeld3
import Derived.Lib.ItoaNum
import Derived.Lib.ItoaMem
import Derived.Lib.ItoaLen
import Derived.Lib.ConvBytes
import Derived.IntWalk
import Derived.Outline
set_option linter.unusedVariables false
set_option linter.unusedSimpArgs false
namespace Go.Proofs.YtfeedokfcebjjaaDoor
open Go.RowKit
set_option maxRecDepth 100000
attribute [local go_sem] equal3
theorem rclass_any (c : Int) (w : World) : Calls Tryd.prog 20 #[.int .i64 c] w fun e w' => e = .returned (.int .i64 (Rp.cls c)) ∧ w' = w := by
  rcases (show c < 200 ∨ 599 < c ∨ (200 ≤ c ∧ c ≤ 599) by omega) with h | h | ⟨h1, h2⟩
  · go_enter Tryd.func20, Tryd.ntmps20
    go_wp2
    go_ret
    exact ⟨ret_int (by unfold Rp.cls; rw [if_pos (.inl h)]), rfl⟩
  · go_enter Tryd.func20, Tryd.ntmps20
    go_wp2
    go_ret
    exact ⟨ret_int (by unfold Rp.cls; rw [if_pos (.inr h)]), rfl⟩
  · go_enter Tryd.func20, Tryd.ntmps20
    go_wp2
    go_ret
    exact ⟨ret_int (by unfold Rp.cls; rw [if_neg (by omega)]), rfl⟩
theorem rnone_any (a b c : Int) (w : World) : Calls Tryd.prog 52 #[.agg #[.int .i64 a, .int .i64 b, .int .i64 c]] w fun e w' => e = .returned (.bool (Rp.none3 a b c)) ∧ Below w.heap.size w w' := by
  have hb : Below w.heap.size w (w.alloc (.cells #[.int .i64 a, .int .i64 b, .int .i64 c] 23)) := (Below.refl _ _).alloc (Nat.le_refl _) _
  by_cases h0 : a = 0
  · subst h0
    by_cases h1 : b = 0
    · subst h1
      cases h2 : (c == 0) with
      | true =>
        have HR := Lib.hid (show Rp.none3 0 0 c = true by unfold Rp.none3; rw [beq_iff_eq] at h2; subst h2; rfl)
        go_enter Tryd.func52, Tryd.ntmps52
        go_wp2
        go_ret
        exact ⟨ret_bool HR.out.symm, hb⟩
      | false =>
        have HR := Lib.hid (show Rp.none3 0 0 c = false by unfold Rp.none3; exact decide_eq_false (fun q => by rw [q.2.2] at h2; cases h2))
        go_enter Tryd.func52, Tryd.ntmps52
        go_wp2
        go_ret
        exact ⟨ret_bool HR.out.symm, hb⟩
    · have h1' : (b == 0) = false := by simpa using h1
      have HR := Lib.hid (show Rp.none3 0 b c = false by unfold Rp.none3; exact decide_eq_false (fun q => h1 q.2.1))
      go_enter Tryd.func52, Tryd.ntmps52
      go_wp2
      go_ret
      exact ⟨ret_bool HR.out.symm, hb⟩
  · have h0' : (a == 0) = false := by simpa using h0
    have HR := Lib.hid (show Rp.none3 a b c = false by unfold Rp.none3; exact decide_eq_false (fun q => h0 q.1))
    go_enter Tryd.func52, Tryd.ntmps52
    go_wp2
    go_ret
    exact ⟨ret_bool HR.out.symm, hb⟩
/-- A byte as a text. -/
theorem byte_text (q : Int) (x : UInt8) (hx : (x.toNat : Int) = q) (W : World) (g : Nat) (hc : W.cell? ⟨g, 0, none⟩ = some (.int .u8 q)) :
    (convert 76 9 (.slice (some ⟨g, 0, none⟩) 1 1)).run Tryd.prog W = .ok (.string ⟨#[x]⟩) W := by
  rw [run_convert_bytes_arg W 76 5 Tryd.underlying76 Tryd.underlying5 g 0 1 1 [q] rfl
    (fun i hi => by match i, hi with
                    | 0, _ => simpa using hc) 9 Tryd.underlying9]
  rw [← hx]
  simp [strOfNums]
theorem dec_one (n : Nat) (h : n < 10) : ∃ x : UInt8, (x.toNat : Int) = 48 + (n : Int) ∧ Lib.decDigits n = [x] := by
  refine ⟨UInt8.ofNat (48 + n), ?_, by unfold Lib.decDigits; rw [dif_pos h]⟩
  rw [UInt8.toNat_ofNat']; omega
theorem dec_more (n : Nat) (h : 10 ≤ n) : ∃ x : UInt8, (x.toNat : Int) = 48 + ((n % 10 : Nat) : Int) ∧ Lib.decDigits n = Lib.decDigits (n / 10) ++ [x] := by
  refine ⟨UInt8.ofNat (48 + n % 10), ?_, by rw [Lib.decDigits]; rw [dif_neg (by omega)]⟩
  rw [UInt8.toNat_ofNat']; omega
set_option maxHeartbeats 4000000 in
theorem digits_one (n : Nat) (h : n < 10) (w : World) : Calls Tryd.prog 33 #[.int .i64 (n : Int)] w fun e w' => e = .returned (.string ⟨(Lib.decDigits n).toArray⟩) ∧ Below w.heap.size w w' := by
  obtain ⟨x, hx, hd⟩ := dec_one n h
  have kc := byte_text _ x hx
  have HR := Lib.hid hd
  clear hx hd
  have hb : Below w.heap.size w (w.alloc (.cells #[.int .u8 (48 + (n : Int))] 5)) := (Below.refl _ _).alloc (Nat.le_refl _) _
  go_enter Tryd.func33, Tryd.ntmps33
  go_wp2
  go_ret
  exact ⟨by rw [HR.out]; rfl, hb⟩
theorem mod10 (n : Nat) (hn : n ≤ 9223372036854775807) : Int.tmod (n : Int) 10 = ((n % 10 : Nat) : Int) := rfl
set_option maxHeartbeats 4000000 in
theorem digits_more (n : Nat) (h : 10 ≤ n) (hn : n ≤ 9223372036854775807) (ih : ∀ W, Calls Tryd.prog 33 #[.int .i64 ((n : Int) / 10)] W fun e w' => e = .returned (.string ⟨(Lib.decDigits (n / 10)).toArray⟩) ∧ Below W.heap.size W w') (w : World) :
    Calls Tryd.prog 33 #[.int .i64 (n : Int)] w fun e w' => e = .returned (.string ⟨(Lib.decDigits n).toArray⟩) ∧ Below w.heap.size w w' := by
  obtain ⟨x, hx, hd⟩ := dec_more n h
  have kc := byte_text _ x hx
  have HR := Lib.hid hd
  clear hx hd
  have hds : ¬ 9223372036854775807 < (Lib.decDigits (n / 10)).length + 1 := by
    have := Lib.itoa_length_le ((n / 10 : Nat) : Int) (by omega) (by omega)
    rw [Lib.itoa_nonneg] at this
    omega
  generalize Lib.decDigits (n / 10) = ds at ih HR hds
  have hw1 : IntKind.i64.wrap ((n : Int) / 10) = (n : Int) / 10 := IntWalk.i64_in _ (by omega)
  have hw2 : (n : Int).tmod 10 = ((n % 10 : Nat) : Int) := rfl
  have hr9 : n % 10 < 10 := Nat.mod_lt _ (by decide)
  generalize n % 10 = r at *
  have hw3 : IntKind.i64.wrap (48 + (r : Int)) = 48 + (r : Int) := IntWalk.i64_in _ (by omega)
  have hw4 : IntKind.u8.wrap (48 + (r : Int)) = 48 + (r : Int) := IntWalk.u8_in _ (by omega)
  go_enter Tryd.func33, Tryd.ntmps33
  go_wp2
  refine wp_region_held_drew (S := fun w' => Below w.heap.size w w') (by kernel_rfl) (pw_below_drewN (Below.refl _ _) 1) (fun hS0_ => ?_)
  generalize w.drew = Wd_ at hS0_ ⊢
  refine wpAnyH_take (i := 0) (oi := ⟨some 16, _, _, _, _, _⟩) (v := ?_) rfl (by kernel_rfl) (by kernel_rfl) (by kernel_rfl) (fun _ _ _ h => h) (Or.inl ⟨by rfl, ?_⟩) hS0_ ?_
  rotate_left
  · (intro w_ hSw_; first | (go_simp; done) | (go_simp; with_reducible rfl))
  try simp only [Act.put, List.setIfInBounds_toArray, List.set_cons_zero, List.set_cons_succ]
  refine wpAnyH_take (i := 1) (oi := ⟨some 17, _, _, _, _, _⟩) (v := ?_) rfl (by kernel_rfl) (by kernel_rfl) (by kernel_rfl) (fun _ _ _ h => h) (Or.inl ⟨by rfl, ?_⟩) hS0_ ?_
  rotate_left
  · (intro w_ hSw_; first | (go_simp; done) | (go_simp; with_reducible rfl))
  try simp only [Act.put, List.setIfInBounds_toArray, List.set_cons_zero, List.set_cons_succ]
  refine wpAnyH_take (i := 3) (oi := ⟨some 19, _, _, _, _, _⟩) (v := ?_) rfl (by kernel_rfl) (by kernel_rfl) (by kernel_rfl) (fun _ _ _ h => h) (Or.inl ⟨by rfl, ?_⟩) hS0_ ?_
  rotate_left
  · (intro w_ hSw_; first | (go_simp; done) | (go_simp; with_reducible rfl))
  try simp only [Act.put, List.setIfInBounds_toArray, List.set_cons_zero, List.set_cons_succ]
  refine wpAnyH_take (i := 4) (oi := ⟨some 20, _, _, _, _, _⟩) (v := ?_) rfl (by kernel_rfl) (by kernel_rfl) (by kernel_rfl) (fun _ _ _ h => h) (Or.inl ⟨by rfl, ?_⟩) hS0_ ?_
  rotate_left
  · (intro w_ hSw_; first | (go_simp; done) | (go_simp; with_reducible rfl))
  try simp only [Act.put, List.setIfInBounds_toArray, List.set_cons_zero, List.set_cons_succ]
  refine wpAnyH_take (i := 5) (oi := ⟨some 21, _, _, _, _, _⟩) (v := ?_) rfl (by kernel_rfl) (by kernel_rfl) (by kernel_rfl) (fun _ _ _ h => h) (Or.inl ⟨by rfl, ?_⟩) hS0_ ?_
  rotate_left
  · (intro w_ hSw_; first | (go_simp; done) | (go_simp; with_reducible rfl))
  try simp only [Act.put, List.setIfInBounds_toArray, List.set_cons_zero, List.set_cons_succ]
  refine wpAnyH_take (i := 6) (oi := ⟨some 22, _, _, _, _, _⟩) (v := ?_) rfl (by kernel_rfl) (by kernel_rfl) (by kernel_rfl) (fun _ _ _ h => h) (Or.inl ⟨by rfl, ?_⟩) hS0_ ?_
  rotate_left
  · (intro w_ hSw_; first | (go_simp; done) | (go_simp; with_reducible rfl))
  try simp only [Act.put, List.setIfInBounds_toArray, List.set_cons_zero, List.set_cons_succ]
  refine wpAnyH_ready (rs := [2, 7]) (by kernel_rfl) (by simp) ?_
  refine AllReadyH.cons rfl (fun K hK => ?_) ?_
  ·
    go_simp
    go_wp2_with ((go_at_call 33; (with_reducible refine (ih _).mono ?_); rintro e w_ ⟨rfl, hb_⟩))
    try have hc_ := cell_next hb_ (show (Wd_.alloc (.cells #[.int .u8 (48 + (r : Int))] 5)).cell? ⟨Wd_.heap.size, 0, none⟩ = some (.int .u8 (48 + (r : Int))) by simp)
    refine hK.out _ _ ?_ (fun hS1_ => ?_)
    · exact Below.next hS0_ hb_ (Nat.le_refl _)
    clear hK
    as_aux_lemma =>
      refine wpAnyH_ready (rs := [7]) (by kernel_rfl) (by simp) ?_
      refine AllReadyH.cons rfl (fun K hK => ?_) ?_
      ·
        go_simp
        refine hK.out _ _ ?_ (fun hS2_ => ?_)
        · exact (hS1_).alloc (hS1_).size _
        clear hK
        as_aux_lemma =>
          refine wpAnyH_ready (rs := [8]) (by kernel_rfl) (by simp) ?_
          refine AllReadyH.cons rfl (fun K hK => ?_) ?_
          ·
            go_simp
            refine hK.out _ _ ?_ (fun hS3_ => ?_)
            · exact hS2_
            clear hK
            as_aux_lemma =>
              refine wpAnyH_take (i := 9) (oi := ⟨some 25, _, _, _, _, _⟩) (v := ?_) rfl (by kernel_rfl) (by kernel_rfl) (by kernel_rfl) (fun _ _ _ h => h) (Or.inl ⟨by rfl, ?_⟩) hS3_ ?_
              rotate_left
              · (intro w_ hSw_; first | (go_simp; done) | (go_simp; with_reducible rfl))
              try simp only [Act.put, List.setIfInBounds_toArray, List.set_cons_zero, List.set_cons_succ]
              refine wpAnyH_take (i := 10) (oi := ⟨some 2, _, _, _, _, _⟩) (v := ?_) rfl (by kernel_rfl) (by kernel_rfl) (by kernel_rfl) (fun _ _ _ h => h) (Or.inl ⟨by rfl, ?_⟩) hS3_ ?_
              rotate_left
              · (intro w_ hSw_; first | (go_simp; done) | (go_simp; with_reducible rfl))
              try simp only [Act.put, List.setIfInBounds_toArray, List.set_cons_zero, List.set_cons_succ]
              as_aux_lemma =>
                refine wpAnyH_done (by kernel_rfl) ?_ _
                go_wp2
                go_ret
                exact ⟨by rw [HR.out]; simp [ByteArray.ext_iff], hS3_⟩
          exact AllReadyH.nil
      exact AllReadyH.nil
  refine AllReadyH.cons rfl (fun K hK => ?_) ?_
  ·
    go_simp
    refine hK.out _ _ ?_ (fun hS1_ => ?_)
    · exact (hS0_).alloc (hS0_).size _
    clear hK
    as_aux_lemma =>
      refine wpAnyH_ready (rs := [2, 8]) (by kernel_rfl) (by simp) ?_
      refine AllReadyH.cons rfl (fun K hK => ?_) ?_
      ·
        go_simp
        go_wp2_with ((go_at_call 33; (with_reducible refine (ih _).mono ?_); rintro e w_ ⟨rfl, hb_⟩))
        try have hc_ := cell_next hb_ (show (Wd_.alloc (.cells #[.int .u8 (48 + (r : Int))] 5)).cell? ⟨Wd_.heap.size, 0, none⟩ = some (.int .u8 (48 + (r : Int))) by simp)
        refine hK.out _ _ ?_ (fun hS2_ => ?_)
        · exact Below.next hS1_ hb_ (Nat.le_refl _)
        clear hK
        as_aux_lemma =>
          refine wpAnyH_ready (rs := [8]) (by kernel_rfl) (by simp) ?_
          refine AllReadyH.cons rfl (fun K hK => ?_) ?_
          ·
            go_simp
            refine hK.out _ _ ?_ (fun hS3_ => ?_)
            · exact hS2_
            clear hK
            as_aux_lemma =>
              refine wpAnyH_take (i := 9) (oi := ⟨some 25, _, _, _, _, _⟩) (v := ?_) rfl (by kernel_rfl) (by kernel_rfl) (by kernel_rfl) (fun _ _ _ h => h) (Or.inl ⟨by rfl, ?_⟩) hS3_ ?_
              rotate_left
              · (intro w_ hSw_; first | (go_simp; done) | (go_simp; with_reducible rfl))
              try simp only [Act.put, List.setIfInBounds_toArray, List.set_cons_zero, List.set_cons_succ]
              refine wpAnyH_take (i := 10) (oi := ⟨some 2, _, _, _, _, _⟩) (v := ?_) rfl (by kernel_rfl) (by kernel_rfl) (by kernel_rfl) (fun _ _ _ h => h) (Or.inl ⟨by rfl, ?_⟩) hS3_ ?_
              rotate_left
              · (intro w_ hSw_; first | (go_simp; done) | (go_simp; with_reducible rfl))
              try simp only [Act.put, List.setIfInBounds_toArray, List.set_cons_zero, List.set_cons_succ]
              refine wpAnyH_done (by kernel_rfl) ?_ _
              go_wp2
              go_ret
              exact ⟨by rw [HR.out]; simp [ByteArray.ext_iff], hS3_⟩
          exact AllReadyH.nil
      refine AllReadyH.cons rfl (fun K hK => ?_) ?_
      ·
        go_simp
        refine hK.out _ _ ?_ (fun hS2_ => ?_)
        · exact hS1_
        clear hK
        as_aux_lemma =>
          refine wpAnyH_ready (rs := [2]) (by kernel_rfl) (by simp) ?_
          refine AllReadyH.cons rfl (fun K hK => ?_) ?_
          ·
            go_simp
            go_wp2_with ((go_at_call 33; (with_reducible refine (ih _).mono ?_); rintro e w_ ⟨rfl, hb_⟩))
            try have hc_ := cell_next hb_ (show (Wd_.alloc (.cells #[.int .u8 (48 + (r : Int))] 5)).cell? ⟨Wd_.heap.size, 0, none⟩ = some (.int .u8 (48 + (r : Int))) by simp)
            refine hK.out _ _ ?_ (fun hS3_ => ?_)
            · exact Below.next hS2_ hb_ (Nat.le_refl _)
            clear hK
            as_aux_lemma =>
              refine wpAnyH_take (i := 9) (oi := ⟨some 25, _, _, _, _, _⟩) (v := ?_) rfl (by kernel_rfl) (by kernel_rfl) (by kernel_rfl) (fun _ _ _ h => h) (Or.inl ⟨by rfl, ?_⟩) hS3_ ?_
              rotate_left
              · (intro w_ hSw_; first | (go_simp; done) | (go_simp; with_reducible rfl))
              try simp only [Act.put, List.setIfInBounds_toArray, List.set_cons_zero, List.set_cons_succ]
              refine wpAnyH_take (i := 10) (oi := ⟨some 2, _, _, _, _, _⟩) (v := ?_) rfl (by kernel_rfl) (by kernel_rfl) (by kernel_rfl) (fun _ _ _ h => h) (Or.inl ⟨by rfl, ?_⟩) hS3_ ?_
              rotate_left
              · (intro w_ hSw_; first | (go_simp; done) | (go_simp; with_reducible rfl))
              try simp only [Act.put, List.setIfInBounds_toArray, List.set_cons_zero, List.set_cons_succ]
              refine wpAnyH_done (by kernel_rfl) ?_ _
              go_wp2
              go_ret
              exact ⟨by rw [HR.out]; simp [ByteArray.ext_iff], hS3_⟩
          exact AllReadyH.nil
      exact AllReadyH.nil
  exact AllReadyH.nil
theorem digits_nat : ∀ (n : Nat) (hn : n ≤ 9223372036854775807) (w : World), Calls Tryd.prog 33 #[.int .i64 (n : Int)] w fun e w' => e = .returned (.string ⟨(Lib.decDigits n).toArray⟩) ∧ Below w.heap.size w w' := by
  intro n
  induction n using Nat.strongRecOn with
  | _ n ih =>
    intro hn w
    by_cases h : n < 10
    · exact digits_one n h w
    · exact digits_more n (by omega) hn (fun W => by have := ih (n / 10) (by omega) (by omega) W; simpa using this) w
theorem digits_any (n : Int) (h0 : 0 ≤ n) (h1 : n ≤ 9223372036854775807) (w : World) : Calls Tryd.prog 33 #[.int .i64 n] w fun e w' => e = .returned (.string ⟨(Lib.itoa n).toArray⟩) ∧ Below w.heap.size w w' := by
  obtain ⟨k, rfl⟩ : ∃ k : Nat, n = (k : Int) := ⟨n.toNat, by omega⟩
  rw [Lib.itoa_nonneg]
  exact digits_nat k (by omega) w
end Go.Proofs.YtfeedokfcebjjaaDoor
