/-
  The reference of layer 5: PrintRcpt.
-/
import Derived.Test.YtfffdbjfhdkheaaGreatDoorQPfPm
import Derived.Test.YtfffdbjfhdkheaaGreatDoorQPfPl
import Derived.Test.YtfffdbjfhdkheaaGreatDoorQ1
import Derived.Test.YtfffdbjfhdkheaaGreatDoorQRfPrintB
set_option linter.unusedVariables false
set_option linter.unusedSimpArgs false
namespace Go.Proofs.YtfffdbjfhdkheaaGreatDoor
open Go.RowKit Go.Shelf
set_option maxRecDepth 100000
set_option maxHeartbeats 4000000 in
theorem refPrintRcpt_bad (nt kd oc : ByteArray) (hk : kd.size ≤ 2000) (r : Int) (hr : Pm.rightRcpt nt kd oc = r) (h0 : r ≠ 0) (w : World) : Calls Tryz.prog 13 #[.agg #[.string nt, .string kd, .string oc]] w fun e w' => e = .returned (.tuple #[.string ⟨#[]⟩, .int .i64 r]) ∧ Below w.heap.size w w' := by
  have hR := fun W => refRightRcpt_any nt kd oc W (by omega)
  rw [hr] at hR
  have e0 : ((r : Int) == 0) = false := by simpa using h0
  have e1 : ((r : Int) != 0) = true := by simpa using h0
  clear hr
  obtain ⟨H, hH⟩ : ∃ H, w.heap.size = H := ⟨_, rfl⟩
  have B0 : Aside (Blk (w.alloc (.cells #[.string nt, .string kd, .string oc] 41)) H #[.string nt, .string kd, .string oc] 41) := ⟨hH ▸ Blk.new (w := w) #[.string nt, .string kd, .string oc] 41⟩
  have L0 : Aside (Below H w (w.alloc (.cells #[.string nt, .string kd, .string oc] 41))) := ⟨(Below.refl _ w).alloc (by omega) _⟩
  rw [hH]
  go_enter Tryz.func13, Tryz.ntmps13
  go_wp2_with (first | ((with_reducible refine at_dst (N := 8) rfl ?_); refine load_blk rfl 41 _ (by rfl) H (by rfl) #[.string nt, .string kd, .string oc] 41 _ B0.out Tryz.underlying41 rfl (by kernel_rfl) ?_) | (go_at_call 31; (with_reducible refine (hR _).mono ?_); rintro e W_ ⟨rfl, hb_⟩; have SS := Aside.mk (show Blk _ H _ _ ∧ Below H _ _ from ⟨B0.out.below hb_, L0.out.trans (hb_.mono (by have := L0.out.size; omega))⟩); clear hb_))
  go_ret2
  exact ⟨rfl, SS.out.2⟩
set_option maxHeartbeats 16000000 in
theorem refPrintRcpt_ok (nt kd oc : ByteArray) (hk : kd.size ≤ 2000) (ho : oc.size ≤ 2000) (hr : Pm.rightRcpt nt kd oc = 0) (w : World) : Calls Tryz.prog 13 #[.agg #[.string nt, .string kd, .string oc]] w fun e w' => e = .returned (.tuple #[.string (Pm.rcptText nt kd oc), .int .i64 0]) ∧ Below w.heap.size w w' := by
  have hR := fun W => refRightRcpt_any nt kd oc W (by omega)
  rw [hr] at hR
  have hin : nt ∈ Pm.nts := (Pm.rright_zero ⟨nt, kd, oc⟩ hr).nt
  obtain ⟨hz3, hlet⟩ := Pf.nt_letters nt hin
  have HLET := Aside.mk hlet
  have dte := fun W => refEncode_any oc (by omega) W
  have zte := Pm.enc_size oc
  have HT : Aside (Pf.u1 ⟨nt, kd, oc⟩ = Pm.rcptText nt kd oc) := ⟨Pf.rtext_eq ⟨nt, kd, oc⟩ hin⟩
  obtain ⟨te, ete⟩ : ∃ t, Pm.encB oc = t := ⟨_, rfl⟩
  rw [ete] at zte
  replace dte : ∀ W, Calls Tryz.prog 27 #[.string oc] W fun e w' => e = .returned (.string te) ∧ Below W.heap.size W w' := ete ▸ dte
  obtain ⟨V, hV⟩ : ∃ t, Pf.ntRun nt nt.size = t := ⟨_, rfl⟩
  have zV : V.size ≤ 24 := by have := Pf.ntRun_size nt nt.size; rw [hV] at this; omega
  obtain ⟨y0, ey0⟩ : ∃ t, Pf.u0 ⟨nt, kd, oc⟩ = t := ⟨_, rfl⟩
  obtain ⟨y1, ey1⟩ : ∃ t, Pf.u1 ⟨nt, kd, oc⟩ = t := ⟨_, rfl⟩
  have mo0 : ∀ W, Calls Tryz.prog 26 #[.string ⟨#[]⟩, .bool (!V.toList.isEmpty), .string ((⟨#[78, 79, 84, 73, 70, 89, 61]⟩ : ByteArray) ++ V)] W fun e w' => e = .returned (.string y0) ∧ w' = W := fun W => by
    rw [← ey0]
    unfold Pf.u0
    simp only
    rw [hV]
    exact more_any _ _ _ (by decide) (by simp only [ByteArray.size_append]; exact Nat.le_trans (Nat.add_le_add_left zV _) (by decide)) W
  have zy0 : y0.size ≤ 40 := by
    rw [← ey0]
    unfold Pf.u0
    simp only
    rw [hV]
    refine Nat.le_trans (Pf.more_size _ _ _) ?_
    simp only [ByteArray.size_append]
    have h1 : (⟨#[]⟩ : ByteArray).size = 0 := rfl
    have h2 : (⟨#[78, 79, 84, 73, 70, 89, 61]⟩ : ByteArray).size = 7 := rfl
    omega
  have mo1 : ∀ W, Calls Tryz.prog 26 #[.string y0, .bool (!kd.toList.isEmpty), .string ((⟨#[79, 82, 67, 80, 84, 61]⟩ : ByteArray) ++ kd ++ ⟨#[59]⟩ ++ te)] W fun e w' => e = .returned (.string y1) ∧ w' = W := fun W => by
    rw [← ey1]
    unfold Pf.u1
    simp only
    rw [ete, show Pf.u0 ⟨nt, kd, oc⟩ = y0 from ey0]
    exact more_any _ _ _ (by omega) (by simp only [ByteArray.size_append]; have h1 : (⟨#[59]⟩ : ByteArray).size = 1 := rfl; have h2 : (⟨#[79, 82, 67, 80, 84, 61]⟩ : ByteArray).size = 6 := rfl; omega) W
  rw [ey1] at HT
  have o0 : ¬ 9223372036854775807 < 7 + V.size := by omega
  have o1 : ¬ 9223372036854775807 < 6 + kd.size := by omega
  have o2 : ¬ 9223372036854775807 < 6 + kd.size + 1 := by omega
  have o3 : ¬ 9223372036854775807 < 6 + kd.size + 1 + te.size := by omega
  have HV := Aside.mk hV
  clear hr hin hlet zte ete ey0 ey1 zV zy0 hV
  obtain ⟨H, hH⟩ : ∃ H, w.heap.size = H := ⟨_, rfl⟩
  have B0 : Aside (Blk (w.alloc (.cells #[.string nt, .string kd, .string oc] 41)) H #[.string nt, .string kd, .string oc] 41) := ⟨hH ▸ Blk.new (w := w) #[.string nt, .string kd, .string oc] 41⟩
  have L0 : Aside (Below H w (w.alloc (.cells #[.string nt, .string kd, .string oc] 41))) := ⟨(Below.refl _ w).alloc (by omega) _⟩
  rw [hH]
  go_enter Tryz.func13, Tryz.ntmps13
  go_wp2_with (first | ((with_reducible refine at_dst (N := 8) rfl ?_); refine load_blk rfl 41 _ (by rfl) H (by rfl) #[.string nt, .string kd, .string oc] 41 _ B0.out Tryz.underlying41 rfl (by kernel_rfl) ?_) | (go_at_call 31; (with_reducible refine (hR _).mono ?_); rintro e W_ ⟨rfl, hb_⟩; have SS := Aside.mk (show Blk _ H _ _ ∧ Below H _ _ from ⟨B0.out.below hb_, L0.out.trans (hb_.mono (by have := L0.out.size; omega))⟩); clear hb_))
  have x0 := SS.out.1.cell 0 (.string nt) rfl
  go_loopw [5, 6] (fun v i wr => wr = W_ ∧ ∃ k : Nat, k ≤ nt.size ∧ i = .int .i64 k ∧ v = .string (Pf.ntRun nt k)) (fun _ i _ => nt.size - (intOf i).toNat)
  case atStart => exact ⟨rfl, 0, by omega, rfl, rfl⟩
  case round =>
    obtain ⟨rfl, k, hk0, rfl, rfl⟩ := hrel
    have zr := Pf.ntRun_size nt k
    by_cases hlt : k < nt.size
    · obtain ⟨c, hc⟩ : ∃ c, nt[k] = c := ⟨_, rfl⟩
      have HN := Aside.mk (Pf.ntRun_next nt k hlt c hc)
      have hm : c ∈ nt.data.toList := by rw [← hc]; exact List.getElem_mem (by simpa using hlt)
      have hcs := HLET.out c hm
      clear hm
      obtain ⟨vk, hvk⟩ : ∃ t, Pf.ntRun nt k = t := ⟨_, rfl⟩
      rw [hvk] at HN zr ⊢
      clear hvk
      have p0 : ¬ 9223372036854775807 < vk.size + 1 := by omega
      have p1 : ¬ 9223372036854775807 < vk.size + 7 := by omega
      have p2 : ¬ 9223372036854775807 < vk.size + 5 := by omega
      have p3 : ¬ 9223372036854775807 < vk.size + 1 + 7 := by omega
      have p4 : ¬ 9223372036854775807 < vk.size + 1 + 5 := by omega
      by_cases h0 : 0 < k
      · have b0 : decide ((0 : Int) < (k : Int)) = true := decide_eq_true (by omega)
        rw [if_pos h0] at HN
        rcases hcs with q | q | q | q <;> subst q <;>
          ( have b1 := Aside.mk b0
            go_wp2
            go_roundw
            case rel => exact ⟨by first | trivial | rfl, k + 1, by omega, by go_num, by rw [HN.out]; rfl⟩
            case measure => first | (simp [intOf]; done) | (simp [intOf]; omega) )
      · have b0 : decide ((0 : Int) < (k : Int)) = false := decide_eq_false (by omega)
        rw [if_neg h0] at HN
        rcases hcs with q | q | q | q <;> subst q <;>
          ( have b1 := Aside.mk b0
            go_wp2
            go_roundw
            case rel => exact ⟨by first | trivial | rfl, k + 1, by omega, by go_num, by rw [HN.out]; rfl⟩
            case measure => first | (simp [intOf]; done) | (simp [intOf]; omega) )
    · have hke : k = nt.size := by omega
      subst hke
      rw [HV.out]
      clear zr HLET
      go_wp2_with (go_at_call 26; (with_reducible refine (mo0 _).mono ?_); rintro e w_ ⟨rfl, hw_⟩; have hw2_ := hw_.symm; subst hw2_; clear hw_)
      clear x0
      refine region_class (C := (fun w' => Blk w' H #[.string nt, .string kd, .string oc] 41 ∧ Below H w w')) (by kernel_rfl) (by kernel_rfl) ⟨SS.out.1.below (pw_below_drewN (Below.refl _ _) 1), pw_below_drewN SS.out.2 1⟩ ?_
      refine q_run ?_ ?_ ?_ ?_
      · kernel_rfl
      rotate_left
      · intro w_ hw_
        have c1 := hw_.1.cell 1 (.string kd) rfl
        have c2 := hw_.1.cell 2 (.string oc) rfl
        first | (go_simp; done) | (go_simp; with_reducible rfl) | (go_simp; rw [if_neg (by first | omega | (simp; omega))])
      try simp only [Act.put, List.setIfInBounds_toArray, List.set_cons_zero, List.set_cons_succ]
      refine q_run ?_ ?_ ?_ ?_
      · kernel_rfl
      rotate_left
      · intro w_ hw_
        have c1 := hw_.1.cell 1 (.string kd) rfl
        have c2 := hw_.1.cell 2 (.string oc) rfl
        first | (go_simp; done) | (go_simp; with_reducible rfl) | (go_simp; rw [if_neg (by first | omega | (simp; omega))])
      try simp only [Act.put, List.setIfInBounds_toArray, List.set_cons_zero, List.set_cons_succ]
      refine q_run ?_ ?_ ?_ ?_
      · kernel_rfl
      rotate_left
      · intro w_ hw_
        have c1 := hw_.1.cell 1 (.string kd) rfl
        have c2 := hw_.1.cell 2 (.string oc) rfl
        first | (go_simp; done) | (go_simp; with_reducible rfl) | (go_simp; rw [if_neg (by first | omega | (simp; omega))])
      try simp only [Act.put, List.setIfInBounds_toArray, List.set_cons_zero, List.set_cons_succ]
      refine q_run ?_ ?_ ?_ ?_
      · kernel_rfl
      rotate_left
      · intro w_ hw_
        have c1 := hw_.1.cell 1 (.string kd) rfl
        have c2 := hw_.1.cell 2 (.string oc) rfl
        first | (go_simp; done) | (go_simp; with_reducible rfl) | (go_simp; rw [if_neg (by first | omega | (simp; omega))])
      try simp only [Act.put, List.setIfInBounds_toArray, List.set_cons_zero, List.set_cons_succ]
      refine q_run ?_ ?_ ?_ ?_
      · kernel_rfl
      rotate_left
      · intro w_ hw_
        have c1 := hw_.1.cell 1 (.string kd) rfl
        have c2 := hw_.1.cell 2 (.string oc) rfl
        first | (go_simp; done) | (go_simp; with_reducible rfl) | (go_simp; rw [if_neg (by first | omega | (simp; omega))])
      try simp only [Act.put, List.setIfInBounds_toArray, List.set_cons_zero, List.set_cons_succ]
      refine q_run ?_ ?_ ?_ ?_
      · kernel_rfl
      rotate_left
      · intro w_ hw_
        have c1 := hw_.1.cell 1 (.string kd) rfl
        have c2 := hw_.1.cell 2 (.string oc) rfl
        first | (go_simp; done) | (go_simp; with_reducible rfl) | (go_simp; rw [if_neg (by first | omega | (simp; omega))])
      try simp only [Act.put, List.setIfInBounds_toArray, List.set_cons_zero, List.set_cons_succ]
      refine q_run ?_ ?_ ?_ ?_
      · kernel_rfl
      rotate_left
      · intro w_ hw_
        have c1 := hw_.1.cell 1 (.string kd) rfl
        have c2 := hw_.1.cell 2 (.string oc) rfl
        first | (go_simp; done) | (go_simp; with_reducible rfl) | (go_simp; rw [if_neg (by first | omega | (simp; omega))])
      try simp only [Act.put, List.setIfInBounds_toArray, List.set_cons_zero, List.set_cons_succ]
      refine q_run ?_ ?_ ?_ ?_
      · kernel_rfl
      rotate_left
      · intro w_ hw_
        have c1 := hw_.1.cell 1 (.string kd) rfl
        have c2 := hw_.1.cell 2 (.string oc) rfl
        first | (go_simp; done) | (go_simp; with_reducible rfl) | (go_simp; rw [if_neg (by first | omega | (simp; omega))])
      try simp only [Act.put, List.setIfInBounds_toArray, List.set_cons_zero, List.set_cons_succ]
      refine q_run ?_ ?_ ?_ ?_
      · kernel_rfl
      rotate_left
      · intro w_ hw_
        have c1 := hw_.1.cell 1 (.string kd) rfl
        have c2 := hw_.1.cell 2 (.string oc) rfl
        first | (go_simp; done) | (go_simp; with_reducible rfl) | (go_simp; rw [if_neg (by first | omega | (simp; omega))])
      try simp only [Act.put, List.setIfInBounds_toArray, List.set_cons_zero, List.set_cons_succ]
      refine q_run ?_ ?_ ?_ ?_
      · kernel_rfl
      rotate_left
      · intro w_ hw_
        have c1 := hw_.1.cell 1 (.string kd) rfl
        have c2 := hw_.1.cell 2 (.string oc) rfl
        first | (go_simp; done) | (go_simp; with_reducible rfl) | (go_simp; rw [if_neg (by first | omega | (simp; omega))])
      try simp only [Act.put, List.setIfInBounds_toArray, List.set_cons_zero, List.set_cons_succ]
      refine q_call ?_ (.string te) ?_ ?_ ?_ ?_ ?_
      · kernel_rfl
      rotate_left 2
      · intro w_ hw_
        go_simp
        refine ⟨?_, ?_⟩ <;> with_reducible rfl
      · intro w_ hw_
        have c1 := hw_.1.cell 1 (.string kd) rfl
        have c2 := hw_.1.cell 2 (.string oc) rfl
        exact (dte w_).mono fun _ _ ⟨h1_, h2_⟩ => ⟨h1_, hw_.1.below h2_, hw_.2.trans (h2_.mono (by have := hw_.2.size; omega))⟩
      try simp only [Act.put, List.setIfInBounds_toArray, List.set_cons_zero, List.set_cons_succ]
      refine q_run ?_ ?_ ?_ ?_
      · kernel_rfl
      rotate_left
      · intro w_ hw_
        have c1 := hw_.1.cell 1 (.string kd) rfl
        have c2 := hw_.1.cell 2 (.string oc) rfl
        first | (go_simp; done) | (go_simp; with_reducible rfl) | (go_simp; rw [if_neg (by first | omega | (simp; omega))])
      try simp only [Act.put, List.setIfInBounds_toArray, List.set_cons_zero, List.set_cons_succ]
      refine q_call ?_ (.string y1) ?_ ?_ ?_ ?_ ?_
      · kernel_rfl
      rotate_left 2
      · intro w_ hw_
        go_simp
        refine ⟨?_, ?_⟩ <;> with_reducible rfl
      · intro w_ hw_
        have c1 := hw_.1.cell 1 (.string kd) rfl
        have c2 := hw_.1.cell 2 (.string oc) rfl
        exact (mo1 w_).mono fun _ _ ⟨h1_, h2_⟩ => ⟨h1_, by rw [h2_]; exact hw_⟩
      try simp only [Act.put, List.setIfInBounds_toArray, List.set_cons_zero, List.set_cons_succ]
      refine q_run ?_ ?_ ?_ ?_
      · kernel_rfl
      rotate_left
      · intro w_ hw_
        have c1 := hw_.1.cell 1 (.string kd) rfl
        have c2 := hw_.1.cell 2 (.string oc) rfl
        first | (go_simp; done) | (go_simp; with_reducible rfl) | (go_simp; rw [if_neg (by first | omega | (simp; omega))])
      try simp only [Act.put, List.setIfInBounds_toArray, List.set_cons_zero, List.set_cons_succ]
      refine q_run ?_ ?_ ?_ ?_
      · kernel_rfl
      rotate_left
      · intro w_ hw_
        have c1 := hw_.1.cell 1 (.string kd) rfl
        have c2 := hw_.1.cell 2 (.string oc) rfl
        first | (go_simp; done) | (go_simp; with_reducible rfl) | (go_simp; rw [if_neg (by first | omega | (simp; omega))])
      try simp only [Act.put, List.setIfInBounds_toArray, List.set_cons_zero, List.set_cons_succ]
      refine q_nil ?_
      intro W_ hC_
      replace SS := Aside.mk hC_
      clear hC_
      go_wp2
      go_ret2
      exact ⟨by rw [← HT.out]; rfl, SS.out.2⟩
theorem refPrintRcpt_any (r : Pm.Rc) (hk : r.kd.size ≤ 2000) (ho : r.oc.size ≤ 2000) (w : World) : Calls Tryz.prog 13 #[.agg r.cells] w fun e w' => e = .returned (.tuple #[.string (if r.right = 0 then r.text else ⟨#[]⟩), .int .i64 r.right]) ∧ Below w.heap.size w w' := by
  by_cases h : r.right = 0
  · rw [if_pos h, h]
    exact refPrintRcpt_ok r.nt r.kd r.oc hk ho h w
  · rw [if_neg h]
    exact refPrintRcpt_bad r.nt r.kd r.oc hk _ rfl h w
end Go.Proofs.YtfffdbjfhdkheaaGreatDoor
