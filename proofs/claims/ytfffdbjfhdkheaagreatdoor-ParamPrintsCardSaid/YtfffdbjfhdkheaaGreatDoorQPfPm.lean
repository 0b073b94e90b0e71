/-
  The reference of layer 5: PrintMail.
-/
import Derived.Test.YtfffdbjfhdkheaaGreatDoorQPfRm
import Derived.Test.YtfffdbjfhdkheaaGreatDoorQPfPl
import Derived.Test.YtfffdbjfhdkheaaGreatDoorQ1
import Derived.Test.YtfffdbjfhdkheaaGreatDoorQRfPrintB
set_option linter.unusedVariables false
set_option linter.unusedSimpArgs false
namespace Go.Proofs.YtfffdbjfhdkheaaGreatDoor
open Go.RowKit Go.Shelf
set_option maxRecDepth 100000
theorem least_lo (s : ByteArray) : -999999999 ≤ Pm.least s := by unfold Pm.least; split <;> omega
theorem ne_empty (l : List UInt8) : (l != []) = !l.isEmpty := by cases l <;> rfl
set_option maxHeartbeats 4000000 in
theorem refPrintMail_bad (m : Pm.Ml) (r : Int) (hr : m.right = r) (h0 : r ≠ 0) (w : World) : Calls Tryz.prog 10 #[.agg m.cells] w fun e w' => e = .returned (.tuple #[.string ⟨#[]⟩, .int .i64 r]) ∧ Below w.heap.size w w' := by
  have hR := fun W => refRightMail_any m W
  rw [hr] at hR
  have e0 : ((r : Int) == 0) = false := by simpa using h0
  have e1 : ((r : Int) != 0) = true := by simpa using h0
  clear hr
  obtain ⟨H, hH⟩ : ∃ H, w.heap.size = H := ⟨_, rfl⟩
  have B0 : Aside (Blk (w.alloc (.cells m.cells 37)) H m.cells 37) := ⟨hH ▸ Blk.new (w := w) m.cells 37⟩
  have L0 : Aside (Below H w (w.alloc (.cells m.cells 37))) := ⟨(Below.refl _ w).alloc (by omega) _⟩
  rw [hH]
  go_enter Tryz.func10, Tryz.ntmps10
  go_wp2_with (first | ((with_reducible refine at_dst (N := 8) rfl ?_); refine load_blk rfl 37 _ (by rfl) H (by rfl) m.cells 37 _ B0.out Tryz.underlying37 rfl (by kernel_rfl) ?_) | (go_at_call 25; (with_reducible refine (hR _).mono ?_); rintro e W_ ⟨rfl, hb_⟩; have SS := Aside.mk (show Blk _ H _ _ ∧ Below H _ _ from ⟨B0.out.below hb_, L0.out.trans (hb_.mono (by have := L0.out.size; omega))⟩); clear hb_))
  go_ret2
  exact ⟨rfl, SS.out.2⟩
set_option maxHeartbeats 16000000 in
theorem refPrintMail_ok (m : Pm.Ml) (hr : m.right = 0) (w : World) : Calls Tryz.prog 10 #[.agg m.cells] w fun e w' => e = .returned (.tuple #[.string m.text, .int .i64 0]) ∧ Below w.heap.size w w' := by
  have hR := fun W => refRightMail_any m W
  rw [hr] at hR
  obtain ⟨hok, _⟩ := Pm.right_zero m hr
  have hf := Pm.ok_fit m hok
  have hen := hok.env
  have hu0 : m.hU = true → 0 ≤ m.u ∧ m.u < 253402300800 := fun q => by rcases hok.u with k | k; exact absurd (k.1.symm.trans q) (by decide); omega
  have hnu : m.hU = false → Pf.t5 m = Pf.t4 m := fun q => by unfold Pf.t5; rw [q]; rfl
  have dts := fun W => digits_all m.s (by rcases hok.s with k | k <;> omega) (by rcases hok.s with k | k <;> omega) W
  have zts := itoaB_size m.s hf.s
  obtain ⟨ts, ets⟩ : ∃ t, Pm.itoaB m.s = t := ⟨_, rfl⟩
  rw [ets] at zts
  replace dts : ∀ W, Calls Tryz.prog 19 #[.int .i64 m.s] W fun e w' => e = .returned (.string ts) ∧ Below W.heap.size W w' := ets ▸ dts
  have dtf := fun W => digits_all m.f (by rcases hok.f with k | k <;> omega) (by rcases hok.f with k | k <;> omega) W
  have ztf := itoaB_size m.f hf.f
  obtain ⟨tf, etf⟩ : ∃ t, Pm.itoaB m.f = t := ⟨_, rfl⟩
  rw [etf] at ztf
  replace dtf : ∀ W, Calls Tryz.prog 19 #[.int .i64 m.f] W fun e w' => e = .returned (.string tf) ∧ Below W.heap.size W w' := etf ▸ dtf
  have dtb := fun W => digits_all m.b (by rcases hok.b with k | k <;> (have := least_lo m.mode; omega)) (by rcases hok.b with k | k <;> omega) W
  have ztb := itoaB_size m.b hf.b
  obtain ⟨tb, etb⟩ : ∃ t, Pm.itoaB m.b = t := ⟨_, rfl⟩
  rw [etb] at ztb
  replace dtb : ∀ W, Calls Tryz.prog 19 #[.int .i64 m.b] W fun e w' => e = .returned (.string tb) ∧ Below W.heap.size W w' := etb ▸ dtb
  have dtp := fun W => digits_all m.p (by rcases hok.p with k | k <;> omega) (by rcases hok.p with k | k <;> omega) W
  have ztp := itoaB_size m.p hf.p
  obtain ⟨tp, etp⟩ : ∃ t, Pm.itoaB m.p = t := ⟨_, rfl⟩
  rw [etp] at ztp
  replace dtp : ∀ W, Calls Tryz.prog 19 #[.int .i64 m.p] W fun e w' => e = .returned (.string tp) ∧ Below W.heap.size W w' := etp ▸ dtp
  have dte := fun W => refEncode_any m.envid (by omega) W
  have zte := Pm.enc_size m.envid
  obtain ⟨te, ete⟩ : ∃ t, Pm.encB m.envid = t := ⟨_, rfl⟩
  rw [ete] at zte
  replace dte : ∀ W, Calls Tryz.prog 27 #[.string m.envid] W fun e w' => e = .returned (.string te) ∧ Below W.heap.size W w' := ete ▸ dte
  have ztu := Pm.date_size m.u
  obtain ⟨tu, etu⟩ : ∃ t, Pm.dateB m.u = t := ⟨_, rfl⟩
  rw [etu] at ztu
  have dtu : m.hU = true → ∀ W, Calls Tryz.prog 28 #[.int .i64 m.u] W fun e w' => e = .returned (.tuple #[.string tu, .int .i64 0]) ∧ Below W.heap.size W w' := fun q W => by
    have := rf_print m.u W
    rw [← etu]
    unfold Pm.dateB
    rw [if_pos (hu0 q), if_pos (hu0 q)] at this
    rw [if_pos (hu0 q)]
    exact this
  have lb := hf.body
  have lr := hf.ret
  have lm := hf.mode
  obtain ⟨y0, ey0⟩ : ∃ t, Pf.t0 m = t := ⟨_, rfl⟩
  have zy0 : y0.size ≤ 37 := by
    rw [← ey0]
    have h1 := Pf.more_size ⟨#[]⟩ m.hS ((⟨#[83, 73, 90, 69, 61]⟩ : ByteArray) ++ ts)
    have h2 : ((⟨#[83, 73, 90, 69, 61]⟩ : ByteArray) ++ ts).size = 5 + ts.size := by simp only [ByteArray.size_append]; rfl
    have h3 : (⟨#[]⟩ : ByteArray).size = 0 := rfl
    rw [h2] at h1
    show (Pf.more _ _ _).size ≤ _
    rw [ets]
    exact Nat.le_trans h1 (by omega)
  have mo0 : ∀ W, Calls Tryz.prog 26 #[.string ⟨#[]⟩, .bool m.hS, .string ((⟨#[83, 73, 90, 69, 61]⟩ : ByteArray) ++ ts)] W fun e w' => e = .returned (.string y0) ∧ w' = W := fun W => by
    rw [← ey0]
    unfold Pf.t0
    rw [ets]
    exact more_any _ _ _ (by first | omega | decide) (by simp only [ByteArray.size_append]; first | (have hq : (⟨#[83, 73, 90, 69, 61]⟩ : ByteArray).size = 5 := rfl; omega)) W
  obtain ⟨y1, ey1⟩ : ∃ t, Pf.t1 m = t := ⟨_, rfl⟩
  have zy1 : y1.size ≤ 2052 := by
    rw [← ey1]
    have h1 := Pf.more_size y0 (!m.body.toList.isEmpty) ((⟨#[66, 79, 68, 89, 61]⟩ : ByteArray) ++ m.body)
    have h2 : ((⟨#[66, 79, 68, 89, 61]⟩ : ByteArray) ++ m.body).size = 5 + m.body.size := by simp only [ByteArray.size_append]; rfl
    rw [h2] at h1
    show (Pf.more _ _ _).size ≤ _
    rw [show Pf.t0 m = y0 from ey0]
    exact Nat.le_trans h1 (by omega)
  have mo1 : ∀ W, Calls Tryz.prog 26 #[.string y0, .bool (!m.body.toList.isEmpty), .string ((⟨#[66, 79, 68, 89, 61]⟩ : ByteArray) ++ m.body)] W fun e w' => e = .returned (.string y1) ∧ w' = W := fun W => by
    rw [← ey1]
    unfold Pf.t1
    rw [show Pf.t0 m = y0 from ey0]
    exact more_any _ _ _ (by first | omega | decide) (by simp only [ByteArray.size_append]; first | (have hq : (⟨#[66, 79, 68, 89, 61]⟩ : ByteArray).size = 5 := rfl; omega)) W
  obtain ⟨y2, ey2⟩ : ∃ t, Pf.t2 m = t := ⟨_, rfl⟩
  have zy2 : y2.size ≤ 4066 := by
    rw [← ey2]
    have h1 := Pf.more_size y1 (!m.ret.toList.isEmpty) ((⟨#[82, 69, 84, 61]⟩ : ByteArray) ++ m.ret)
    have h2 : ((⟨#[82, 69, 84, 61]⟩ : ByteArray) ++ m.ret).size = 4 + m.ret.size := by simp only [ByteArray.size_append]; rfl
    rw [h2] at h1
    show (Pf.more _ _ _).size ≤ _
    rw [show Pf.t1 m = y1 from ey1]
    exact Nat.le_trans h1 (by omega)
  have mo2 : ∀ W, Calls Tryz.prog 26 #[.string y1, .bool (!m.ret.toList.isEmpty), .string ((⟨#[82, 69, 84, 61]⟩ : ByteArray) ++ m.ret)] W fun e w' => e = .returned (.string y2) ∧ w' = W := fun W => by
    rw [← ey2]
    unfold Pf.t2
    rw [show Pf.t1 m = y1 from ey1]
    exact more_any _ _ _ (by first | omega | decide) (by simp only [ByteArray.size_append]; first | (have hq : (⟨#[82, 69, 84, 61]⟩ : ByteArray).size = 4 := rfl; omega)) W
  obtain ⟨y3, ey3⟩ : ∃ t, Pf.t3 m = t := ⟨_, rfl⟩
  have zy3 : y3.size ≤ 4382 := by
    rw [← ey3]
    have h1 := Pf.more_size y2 (!m.envid.toList.isEmpty) ((⟨#[69, 78, 86, 73, 68, 61]⟩ : ByteArray) ++ te)
    have h2 : ((⟨#[69, 78, 86, 73, 68, 61]⟩ : ByteArray) ++ te).size = 6 + te.size := by simp only [ByteArray.size_append]; rfl
    rw [h2] at h1
    show (Pf.more _ _ _).size ≤ _
    rw [ete, show Pf.t2 m = y2 from ey2]
    exact Nat.le_trans h1 (by omega)
  have mo3 : ∀ W, Calls Tryz.prog 26 #[.string y2, .bool (!m.envid.toList.isEmpty), .string ((⟨#[69, 78, 86, 73, 68, 61]⟩ : ByteArray) ++ te)] W fun e w' => e = .returned (.string y3) ∧ w' = W := fun W => by
    rw [← ey3]
    unfold Pf.t3
    rw [ete, show Pf.t2 m = y2 from ey2]
    exact more_any _ _ _ (by first | omega | decide) (by simp only [ByteArray.size_append]; first | (have hq : (⟨#[69, 78, 86, 73, 68, 61]⟩ : ByteArray).size = 6 := rfl; omega)) W
  obtain ⟨y4, ey4⟩ : ∃ t, Pf.t4 m = t := ⟨_, rfl⟩
  have zy4 : y4.size ≤ 4421 := by
    rw [← ey4]
    have h1 := Pf.more_size y3 m.hF ((⟨#[72, 79, 76, 68, 70, 79, 82, 61]⟩ : ByteArray) ++ tf)
    have h2 : ((⟨#[72, 79, 76, 68, 70, 79, 82, 61]⟩ : ByteArray) ++ tf).size = 8 + tf.size := by simp only [ByteArray.size_append]; rfl
    rw [h2] at h1
    show (Pf.more _ _ _).size ≤ _
    rw [etf, show Pf.t3 m = y3 from ey3]
    exact Nat.le_trans h1 (by omega)
  have mo4 : ∀ W, Calls Tryz.prog 26 #[.string y3, .bool m.hF, .string ((⟨#[72, 79, 76, 68, 70, 79, 82, 61]⟩ : ByteArray) ++ tf)] W fun e w' => e = .returned (.string y4) ∧ w' = W := fun W => by
    rw [← ey4]
    unfold Pf.t4
    rw [etf, show Pf.t3 m = y3 from ey3]
    exact more_any _ _ _ (by first | omega | decide) (by simp only [ByteArray.size_append]; first | (have hq : (⟨#[72, 79, 76, 68, 70, 79, 82, 61]⟩ : ByteArray).size = 8 := rfl; omega)) W
  obtain ⟨y5, ey5⟩ : ∃ t, Pf.t5 m = t := ⟨_, rfl⟩
  have zy5 : y5.size ≤ 4461 := by
    rw [← ey5]
    have h1 := Pf.more_size y4 m.hU ((⟨#[72, 79, 76, 68, 85, 78, 84, 73, 76, 61]⟩ : ByteArray) ++ tu)
    have h2 : ((⟨#[72, 79, 76, 68, 85, 78, 84, 73, 76, 61]⟩ : ByteArray) ++ tu).size = 10 + tu.size := by simp only [ByteArray.size_append]; rfl
    rw [h2] at h1
    show (Pf.more _ _ _).size ≤ _
    rw [etu, show Pf.t4 m = y4 from ey4]
    exact Nat.le_trans h1 (by omega)
  have mo5 : m.hU = true → ∀ W, Calls Tryz.prog 26 #[.string y4, .bool true, .string ((⟨#[72, 79, 76, 68, 85, 78, 84, 73, 76, 61]⟩ : ByteArray) ++ tu)] W fun e w' => e = .returned (.string y5) ∧ w' = W := fun q W => by
    rw [← ey5]
    unfold Pf.t5
    rw [q, etu, show Pf.t4 m = y4 from ey4]
    exact more_any y4 true _ (by omega) (by simp only [ByteArray.size_append]; exact Nat.le_trans (Nat.add_le_add_left ztu _) (by decide)) W
  obtain ⟨y6, ey6⟩ : ∃ t, Pf.t6 m = t := ⟨_, rfl⟩
  have zy6 : y6.size ≤ 6496 := by
    rw [← ey6]
    have h1 := Pf.more_size y5 m.hB ((⟨#[66, 89, 61]⟩ : ByteArray) ++ tb ++ ⟨#[59]⟩ ++ m.mode)
    have h2 : ((⟨#[66, 89, 61]⟩ : ByteArray) ++ tb ++ ⟨#[59]⟩ ++ m.mode).size = 3 + tb.size + 1 + m.mode.size := by simp only [ByteArray.size_append]; rfl
    rw [h2] at h1
    show (Pf.more _ _ _).size ≤ _
    rw [etb, show Pf.t5 m = y5 from ey5]
    exact Nat.le_trans h1 (by omega)
  have mo6 : ∀ W, Calls Tryz.prog 26 #[.string y5, .bool m.hB, .string ((⟨#[66, 89, 61]⟩ : ByteArray) ++ tb ++ ⟨#[59]⟩ ++ m.mode)] W fun e w' => e = .returned (.string y6) ∧ w' = W := fun W => by
    rw [← ey6]
    unfold Pf.t6
    rw [etb, show Pf.t5 m = y5 from ey5]
    exact more_any _ _ _ (by first | omega | decide) (by simp only [ByteArray.size_append]; first | (have hq : (⟨#[66, 89, 61]⟩ : ByteArray).size = 3 := rfl; have hq2 : (⟨#[59]⟩ : ByteArray).size = 1 := rfl; omega)) W
  obtain ⟨y7, ey7⟩ : ∃ t, Pf.t7 m = t := ⟨_, rfl⟩
  have zy7 : y7.size ≤ 6539 := by
    rw [← ey7]
    have h1 := Pf.more_size y6 m.hP ((⟨#[77, 84, 45, 80, 82, 73, 79, 82, 73, 84, 89, 61]⟩ : ByteArray) ++ tp)
    have h2 : ((⟨#[77, 84, 45, 80, 82, 73, 79, 82, 73, 84, 89, 61]⟩ : ByteArray) ++ tp).size = 12 + tp.size := by simp only [ByteArray.size_append]; rfl
    rw [h2] at h1
    show (Pf.more _ _ _).size ≤ _
    rw [etp, show Pf.t6 m = y6 from ey6]
    exact Nat.le_trans h1 (by omega)
  have mo7 : ∀ W, Calls Tryz.prog 26 #[.string y6, .bool m.hP, .string ((⟨#[77, 84, 45, 80, 82, 73, 79, 82, 73, 84, 89, 61]⟩ : ByteArray) ++ tp)] W fun e w' => e = .returned (.string y7) ∧ w' = W := fun W => by
    rw [← ey7]
    unfold Pf.t7
    rw [etp, show Pf.t6 m = y6 from ey6]
    exact more_any _ _ _ (by first | omega | decide) (by simp only [ByteArray.size_append]; first | (have hq : (⟨#[77, 84, 45, 80, 82, 73, 79, 82, 73, 84, 89, 61]⟩ : ByteArray).size = 12 := rfl; omega)) W
  have HT := Aside.mk ((Pf.text_eq m).symm.trans ey7)
  have HN5 : m.hU = false → y5 = y4 := fun q => by rw [← ey5, ← ey4]; exact hnu q
  have o0 : ¬ 9223372036854775807 < 5 + ts.size := by omega
  have o1 : ¬ 9223372036854775807 < 5 + m.body.size := by omega
  have o2 : ¬ 9223372036854775807 < 4 + m.ret.size := by omega
  have o3 : ¬ 9223372036854775807 < 6 + te.size := by omega
  have o4 : ¬ 9223372036854775807 < 8 + tf.size := by omega
  have o5 : ¬ 9223372036854775807 < 10 + tu.size := by omega
  have o6 : ¬ 9223372036854775807 < 3 + tb.size := by omega
  have o6b : ¬ 9223372036854775807 < 3 + tb.size + 1 := by omega
  have o6c : ¬ 9223372036854775807 < 3 + tb.size + 1 + m.mode.size := by omega
  have o7 : ¬ 9223372036854775807 < 12 + tp.size := by omega
  clear hf hok hu0 hnu hen zts ztf ztb ztp zte ztu lb lr lm zy0 zy1 zy2 zy3 zy4 zy5 zy6 zy7 ey0 ey1 ey2 ey3 ey4 ey5 ey6 ey7 ets etf etb etp ete etu hr
  obtain ⟨H, hH⟩ : ∃ H, w.heap.size = H := ⟨_, rfl⟩
  have B0 : Aside (Blk (w.alloc (.cells m.cells 37)) H m.cells 37) := ⟨hH ▸ Blk.new (w := w) m.cells 37⟩
  have L0 : Aside (Below H w (w.alloc (.cells m.cells 37))) := ⟨(Below.refl _ w).alloc (by omega) _⟩
  rw [hH]
  go_enter Tryz.func10, Tryz.ntmps10
  go_wp2_with (first | ((with_reducible refine at_dst (N := 8) rfl ?_); refine load_blk rfl 37 _ (by rfl) H (by rfl) m.cells 37 _ B0.out Tryz.underlying37 rfl (by kernel_rfl) ?_) | (go_at_call 25; (with_reducible refine (hR _).mono ?_); rintro e W_ ⟨rfl, hb_⟩; have SS := Aside.mk (show Blk _ H _ _ ∧ Below H _ _ from ⟨B0.out.below hb_, L0.out.trans (hb_.mono (by have := L0.out.size; omega))⟩); clear hb_))
  refine region_class (C := (fun w' => Blk w' H m.cells 37 ∧ Below H w w')) (by kernel_rfl) (by kernel_rfl) ⟨SS.out.1.below (pw_below_drewN (Below.refl _ _) 1), pw_below_drewN SS.out.2 1⟩ ?_
  refine q_run ?_ ?_ ?_ ?_
  · kernel_rfl
  rotate_left
  · intro w_ hw_
    have c0 := hw_.1.cell 0 (.bool m.hS) rfl
    have c5 := hw_.1.cell 5 (.int .i64 m.s) rfl
    first | (go_simp; done) | (go_simp; with_reducible rfl) | (go_simp; rw [if_neg (by first | omega | (simp; omega))])
  try simp only [Act.put, List.setIfInBounds_toArray, List.set_cons_zero, List.set_cons_succ]
  refine q_run ?_ ?_ ?_ ?_
  · kernel_rfl
  rotate_left
  · intro w_ hw_
    have c0 := hw_.1.cell 0 (.bool m.hS) rfl
    have c5 := hw_.1.cell 5 (.int .i64 m.s) rfl
    first | (go_simp; done) | (go_simp; with_reducible rfl) | (go_simp; rw [if_neg (by first | omega | (simp; omega))])
  try simp only [Act.put, List.setIfInBounds_toArray, List.set_cons_zero, List.set_cons_succ]
  refine q_run ?_ ?_ ?_ ?_
  · kernel_rfl
  rotate_left
  · intro w_ hw_
    have c0 := hw_.1.cell 0 (.bool m.hS) rfl
    have c5 := hw_.1.cell 5 (.int .i64 m.s) rfl
    first | (go_simp; done) | (go_simp; with_reducible rfl) | (go_simp; rw [if_neg (by first | omega | (simp; omega))])
  try simp only [Act.put, List.setIfInBounds_toArray, List.set_cons_zero, List.set_cons_succ]
  refine q_run ?_ ?_ ?_ ?_
  · kernel_rfl
  rotate_left
  · intro w_ hw_
    have c0 := hw_.1.cell 0 (.bool m.hS) rfl
    have c5 := hw_.1.cell 5 (.int .i64 m.s) rfl
    first | (go_simp; done) | (go_simp; with_reducible rfl) | (go_simp; rw [if_neg (by first | omega | (simp; omega))])
  try simp only [Act.put, List.setIfInBounds_toArray, List.set_cons_zero, List.set_cons_succ]
  refine q_run ?_ ?_ ?_ ?_
  · kernel_rfl
  rotate_left
  · intro w_ hw_
    have c0 := hw_.1.cell 0 (.bool m.hS) rfl
    have c5 := hw_.1.cell 5 (.int .i64 m.s) rfl
    first | (go_simp; done) | (go_simp; with_reducible rfl) | (go_simp; rw [if_neg (by first | omega | (simp; omega))])
  try simp only [Act.put, List.setIfInBounds_toArray, List.set_cons_zero, List.set_cons_succ]
  refine q_call ?_ (.string ts) ?_ ?_ ?_ ?_ ?_
  · kernel_rfl
  rotate_left 2
  · intro w_ hw_
    go_simp
    refine ⟨?_, ?_⟩ <;> with_reducible rfl
  · intro w_ hw_
    have c0 := hw_.1.cell 0 (.bool m.hS) rfl
    have c5 := hw_.1.cell 5 (.int .i64 m.s) rfl
    exact (dts w_).mono fun _ _ ⟨h1_, h2_⟩ => ⟨h1_, hw_.1.below h2_, hw_.2.trans (h2_.mono (by have := hw_.2.size; omega))⟩
  try simp only [Act.put, List.setIfInBounds_toArray, List.set_cons_zero, List.set_cons_succ]
  refine q_run ?_ ?_ ?_ ?_
  · kernel_rfl
  rotate_left
  · intro w_ hw_
    have c0 := hw_.1.cell 0 (.bool m.hS) rfl
    have c5 := hw_.1.cell 5 (.int .i64 m.s) rfl
    first | (go_simp; done) | (go_simp; with_reducible rfl) | (go_simp; rw [if_neg (by first | omega | (simp; omega))])
  try simp only [Act.put, List.setIfInBounds_toArray, List.set_cons_zero, List.set_cons_succ]
  refine q_call ?_ (.string y0) ?_ ?_ ?_ ?_ ?_
  · kernel_rfl
  rotate_left 2
  · intro w_ hw_
    go_simp
    refine ⟨?_, ?_⟩ <;> with_reducible rfl
  · intro w_ hw_
    have c0 := hw_.1.cell 0 (.bool m.hS) rfl
    have c5 := hw_.1.cell 5 (.int .i64 m.s) rfl
    exact (mo0 w_).mono fun _ _ ⟨h1_, h2_⟩ => ⟨h1_, by rw [h2_]; exact hw_⟩
  try simp only [Act.put, List.setIfInBounds_toArray, List.set_cons_zero, List.set_cons_succ]
  refine q_run ?_ ?_ ?_ ?_
  · kernel_rfl
  rotate_left
  · intro w_ hw_
    have c0 := hw_.1.cell 0 (.bool m.hS) rfl
    have c5 := hw_.1.cell 5 (.int .i64 m.s) rfl
    first | (go_simp; done) | (go_simp; with_reducible rfl) | (go_simp; rw [if_neg (by first | omega | (simp; omega))])
  try simp only [Act.put, List.setIfInBounds_toArray, List.set_cons_zero, List.set_cons_succ]
  refine q_nil ?_
  intro W_ hC_
  replace SS := Aside.mk hC_
  clear hC_
  have x10 := SS.out.1.cell 10 (.string m.body) rfl
  have x11 := SS.out.1.cell 11 (.string m.ret) rfl
  go_wp2_with (first | (go_at_call 26; (with_reducible refine (mo1 _).mono ?_); rintro e w_ ⟨rfl, hw_⟩; have hw2_ := hw_.symm; subst hw2_; clear hw_) | (go_at_call 26; (with_reducible refine (mo2 _).mono ?_); rintro e w_ ⟨rfl, hw_⟩; have hw2_ := hw_.symm; subst hw2_; clear hw_))
  clear x10 x11
  refine region_class (C := (fun w' => Blk w' H m.cells 37 ∧ Below H w w')) (by kernel_rfl) (by kernel_rfl) ⟨SS.out.1.below (pw_below_drewN (Below.refl _ _) 1), pw_below_drewN SS.out.2 1⟩ ?_
  refine q_run ?_ ?_ ?_ ?_
  · kernel_rfl
  rotate_left
  · intro w_ hw_
    have c12 := hw_.1.cell 12 (.string m.envid) rfl
    first | (go_simp; done) | (go_simp; with_reducible rfl) | (go_simp; rw [if_neg (by first | omega | (simp; omega))])
  try simp only [Act.put, List.setIfInBounds_toArray, List.set_cons_zero, List.set_cons_succ]
  refine q_run ?_ ?_ ?_ ?_
  · kernel_rfl
  rotate_left
  · intro w_ hw_
    have c12 := hw_.1.cell 12 (.string m.envid) rfl
    first | (go_simp; done) | (go_simp; with_reducible rfl) | (go_simp; rw [if_neg (by first | omega | (simp; omega))])
  try simp only [Act.put, List.setIfInBounds_toArray, List.set_cons_zero, List.set_cons_succ]
  refine q_run ?_ ?_ ?_ ?_
  · kernel_rfl
  rotate_left
  · intro w_ hw_
    have c12 := hw_.1.cell 12 (.string m.envid) rfl
    first | (go_simp; done) | (go_simp; with_reducible rfl) | (go_simp; rw [if_neg (by first | omega | (simp; omega))])
  try simp only [Act.put, List.setIfInBounds_toArray, List.set_cons_zero, List.set_cons_succ]
  refine q_run ?_ ?_ ?_ ?_
  · kernel_rfl
  rotate_left
  · intro w_ hw_
    have c12 := hw_.1.cell 12 (.string m.envid) rfl
    first | (go_simp; done) | (go_simp; with_reducible rfl) | (go_simp; rw [if_neg (by first | omega | (simp; omega))])
  try simp only [Act.put, List.setIfInBounds_toArray, List.set_cons_zero, List.set_cons_succ]
  refine q_run ?_ ?_ ?_ ?_
  · kernel_rfl
  rotate_left
  · intro w_ hw_
    have c12 := hw_.1.cell 12 (.string m.envid) rfl
    first | (go_simp; done) | (go_simp; with_reducible rfl) | (go_simp; rw [if_neg (by first | omega | (simp; omega))])
  try simp only [Act.put, List.setIfInBounds_toArray, List.set_cons_zero, List.set_cons_succ]
  refine q_run ?_ ?_ ?_ ?_
  · kernel_rfl
  rotate_left
  · intro w_ hw_
    have c12 := hw_.1.cell 12 (.string m.envid) rfl
    first | (go_simp; done) | (go_simp; with_reducible rfl) | (go_simp; rw [if_neg (by first | omega | (simp; omega))])
  try simp only [Act.put, List.setIfInBounds_toArray, List.set_cons_zero, List.set_cons_succ]
  refine q_call ?_ (.string te) ?_ ?_ ?_ ?_ ?_
  · kernel_rfl
  rotate_left 2
  · intro w_ hw_
    go_simp
    refine ⟨?_, ?_⟩ <;> with_reducible rfl
  · intro w_ hw_
    have c12 := hw_.1.cell 12 (.string m.envid) rfl
    exact (dte w_).mono fun _ _ ⟨h1_, h2_⟩ => ⟨h1_, hw_.1.below h2_, hw_.2.trans (h2_.mono (by have := hw_.2.size; omega))⟩
  try simp only [Act.put, List.setIfInBounds_toArray, List.set_cons_zero, List.set_cons_succ]
  refine q_run ?_ ?_ ?_ ?_
  · kernel_rfl
  rotate_left
  · intro w_ hw_
    have c12 := hw_.1.cell 12 (.string m.envid) rfl
    first | (go_simp; done) | (go_simp; with_reducible rfl) | (go_simp; rw [if_neg (by first | omega | (simp; omega))])
  try simp only [Act.put, List.setIfInBounds_toArray, List.set_cons_zero, List.set_cons_succ]
  refine q_call ?_ (.string y3) ?_ ?_ ?_ ?_ ?_
  · kernel_rfl
  rotate_left 2
  · intro w_ hw_
    go_simp
    refine ⟨?_, ?_⟩ <;> with_reducible rfl
  · intro w_ hw_
    have c12 := hw_.1.cell 12 (.string m.envid) rfl
    exact (mo3 w_).mono fun _ _ ⟨h1_, h2_⟩ => ⟨h1_, by rw [h2_]; exact hw_⟩
  try simp only [Act.put, List.setIfInBounds_toArray, List.set_cons_zero, List.set_cons_succ]
  refine q_run ?_ ?_ ?_ ?_
  · kernel_rfl
  rotate_left
  · intro w_ hw_
    have c12 := hw_.1.cell 12 (.string m.envid) rfl
    first | (go_simp; done) | (go_simp; with_reducible rfl) | (go_simp; rw [if_neg (by first | omega | (simp; omega))])
  try simp only [Act.put, List.setIfInBounds_toArray, List.set_cons_zero, List.set_cons_succ]
  refine q_nil ?_
  intro W_ hC_
  replace SS := Aside.mk hC_
  clear hC_
  go_wp2
  refine region_class (C := (fun w' => Blk w' H m.cells 37 ∧ Below H w w')) (by kernel_rfl) (by kernel_rfl) ⟨SS.out.1.below (pw_below_drewN (Below.refl _ _) 1), pw_below_drewN SS.out.2 1⟩ ?_
  refine q_run ?_ ?_ ?_ ?_
  · kernel_rfl
  rotate_left
  · intro w_ hw_
    have c1 := hw_.1.cell 1 (.bool m.hF) rfl
    have c6 := hw_.1.cell 6 (.int .i64 m.f) rfl
    first | (go_simp; done) | (go_simp; with_reducible rfl) | (go_simp; rw [if_neg (by first | omega | (simp; omega))])
  try simp only [Act.put, List.setIfInBounds_toArray, List.set_cons_zero, List.set_cons_succ]
  refine q_run ?_ ?_ ?_ ?_
  · kernel_rfl
  rotate_left
  · intro w_ hw_
    have c1 := hw_.1.cell 1 (.bool m.hF) rfl
    have c6 := hw_.1.cell 6 (.int .i64 m.f) rfl
    first | (go_simp; done) | (go_simp; with_reducible rfl) | (go_simp; rw [if_neg (by first | omega | (simp; omega))])
  try simp only [Act.put, List.setIfInBounds_toArray, List.set_cons_zero, List.set_cons_succ]
  refine q_run ?_ ?_ ?_ ?_
  · kernel_rfl
  rotate_left
  · intro w_ hw_
    have c1 := hw_.1.cell 1 (.bool m.hF) rfl
    have c6 := hw_.1.cell 6 (.int .i64 m.f) rfl
    first | (go_simp; done) | (go_simp; with_reducible rfl) | (go_simp; rw [if_neg (by first | omega | (simp; omega))])
  try simp only [Act.put, List.setIfInBounds_toArray, List.set_cons_zero, List.set_cons_succ]
  refine q_run ?_ ?_ ?_ ?_
  · kernel_rfl
  rotate_left
  · intro w_ hw_
    have c1 := hw_.1.cell 1 (.bool m.hF) rfl
    have c6 := hw_.1.cell 6 (.int .i64 m.f) rfl
    first | (go_simp; done) | (go_simp; with_reducible rfl) | (go_simp; rw [if_neg (by first | omega | (simp; omega))])
  try simp only [Act.put, List.setIfInBounds_toArray, List.set_cons_zero, List.set_cons_succ]
  refine q_run ?_ ?_ ?_ ?_
  · kernel_rfl
  rotate_left
  · intro w_ hw_
    have c1 := hw_.1.cell 1 (.bool m.hF) rfl
    have c6 := hw_.1.cell 6 (.int .i64 m.f) rfl
    first | (go_simp; done) | (go_simp; with_reducible rfl) | (go_simp; rw [if_neg (by first | omega | (simp; omega))])
  try simp only [Act.put, List.setIfInBounds_toArray, List.set_cons_zero, List.set_cons_succ]
  refine q_run ?_ ?_ ?_ ?_
  · kernel_rfl
  rotate_left
  · intro w_ hw_
    have c1 := hw_.1.cell 1 (.bool m.hF) rfl
    have c6 := hw_.1.cell 6 (.int .i64 m.f) rfl
    first | (go_simp; done) | (go_simp; with_reducible rfl) | (go_simp; rw [if_neg (by first | omega | (simp; omega))])
  try simp only [Act.put, List.setIfInBounds_toArray, List.set_cons_zero, List.set_cons_succ]
  refine q_call ?_ (.string tf) ?_ ?_ ?_ ?_ ?_
  · kernel_rfl
  rotate_left 2
  · intro w_ hw_
    go_simp
    refine ⟨?_, ?_⟩ <;> with_reducible rfl
  · intro w_ hw_
    have c1 := hw_.1.cell 1 (.bool m.hF) rfl
    have c6 := hw_.1.cell 6 (.int .i64 m.f) rfl
    exact (dtf w_).mono fun _ _ ⟨h1_, h2_⟩ => ⟨h1_, hw_.1.below h2_, hw_.2.trans (h2_.mono (by have := hw_.2.size; omega))⟩
  try simp only [Act.put, List.setIfInBounds_toArray, List.set_cons_zero, List.set_cons_succ]
  refine q_run ?_ ?_ ?_ ?_
  · kernel_rfl
  rotate_left
  · intro w_ hw_
    have c1 := hw_.1.cell 1 (.bool m.hF) rfl
    have c6 := hw_.1.cell 6 (.int .i64 m.f) rfl
    first | (go_simp; done) | (go_simp; with_reducible rfl) | (go_simp; rw [if_neg (by first | omega | (simp; omega))])
  try simp only [Act.put, List.setIfInBounds_toArray, List.set_cons_zero, List.set_cons_succ]
  refine q_call ?_ (.string y4) ?_ ?_ ?_ ?_ ?_
  · kernel_rfl
  rotate_left 2
  · intro w_ hw_
    go_simp
    refine ⟨?_, ?_⟩ <;> with_reducible rfl
  · intro w_ hw_
    have c1 := hw_.1.cell 1 (.bool m.hF) rfl
    have c6 := hw_.1.cell 6 (.int .i64 m.f) rfl
    exact (mo4 w_).mono fun _ _ ⟨h1_, h2_⟩ => ⟨h1_, by rw [h2_]; exact hw_⟩
  try simp only [Act.put, List.setIfInBounds_toArray, List.set_cons_zero, List.set_cons_succ]
  refine q_run ?_ ?_ ?_ ?_
  · kernel_rfl
  rotate_left
  · intro w_ hw_
    have c1 := hw_.1.cell 1 (.bool m.hF) rfl
    have c6 := hw_.1.cell 6 (.int .i64 m.f) rfl
    first | (go_simp; done) | (go_simp; with_reducible rfl) | (go_simp; rw [if_neg (by first | omega | (simp; omega))])
  try simp only [Act.put, List.setIfInBounds_toArray, List.set_cons_zero, List.set_cons_succ]
  refine q_nil ?_
  intro W_ hC_
  replace SS := Aside.mk hC_
  clear hC_
  have x2 := SS.out.1.cell 2 (.bool m.hU) rfl
  cases hU : m.hU with
  | false =>
    rw [hU] at x2
    have e5 := HN5 hU
    subst e5
    go_wp2
    clear x2
    refine region_class (C := (fun w' => Blk w' H m.cells 37 ∧ Below H w w')) (by kernel_rfl) (by kernel_rfl) ⟨SS.out.1.below (pw_below_drewN (Below.refl _ _) 1), pw_below_drewN SS.out.2 1⟩ ?_
    refine q_run ?_ ?_ ?_ ?_
    · kernel_rfl
    rotate_left
    · intro w_ hw_
      have c3 := hw_.1.cell 3 (.bool m.hB) rfl
      have c8 := hw_.1.cell 8 (.int .i64 m.b) rfl
      have c13 := hw_.1.cell 13 (.string m.mode) rfl
      first | (go_simp; done) | (go_simp; with_reducible rfl) | (go_simp; rw [if_neg (by first | omega | (simp; omega))])
    try simp only [Act.put, List.setIfInBounds_toArray, List.set_cons_zero, List.set_cons_succ]
    refine q_run ?_ ?_ ?_ ?_
    · kernel_rfl
    rotate_left
    · intro w_ hw_
      have c3 := hw_.1.cell 3 (.bool m.hB) rfl
      have c8 := hw_.1.cell 8 (.int .i64 m.b) rfl
      have c13 := hw_.1.cell 13 (.string m.mode) rfl
      first | (go_simp; done) | (go_simp; with_reducible rfl) | (go_simp; rw [if_neg (by first | omega | (simp; omega))])
    try simp only [Act.put, List.setIfInBounds_toArray, List.set_cons_zero, List.set_cons_succ]
    refine q_run ?_ ?_ ?_ ?_
    · kernel_rfl
    rotate_left
    · intro w_ hw_
      have c3 := hw_.1.cell 3 (.bool m.hB) rfl
      have c8 := hw_.1.cell 8 (.int .i64 m.b) rfl
      have c13 := hw_.1.cell 13 (.string m.mode) rfl
      first | (go_simp; done) | (go_simp; with_reducible rfl) | (go_simp; rw [if_neg (by first | omega | (simp; omega))])
    try simp only [Act.put, List.setIfInBounds_toArray, List.set_cons_zero, List.set_cons_succ]
    refine q_run ?_ ?_ ?_ ?_
    · kernel_rfl
    rotate_left
    · intro w_ hw_
      have c3 := hw_.1.cell 3 (.bool m.hB) rfl
      have c8 := hw_.1.cell 8 (.int .i64 m.b) rfl
      have c13 := hw_.1.cell 13 (.string m.mode) rfl
      first | (go_simp; done) | (go_simp; with_reducible rfl) | (go_simp; rw [if_neg (by first | omega | (simp; omega))])
    try simp only [Act.put, List.setIfInBounds_toArray, List.set_cons_zero, List.set_cons_succ]
    refine q_run ?_ ?_ ?_ ?_
    · kernel_rfl
    rotate_left
    · intro w_ hw_
      have c3 := hw_.1.cell 3 (.bool m.hB) rfl
      have c8 := hw_.1.cell 8 (.int .i64 m.b) rfl
      have c13 := hw_.1.cell 13 (.string m.mode) rfl
      first | (go_simp; done) | (go_simp; with_reducible rfl) | (go_simp; rw [if_neg (by first | omega | (simp; omega))])
    try simp only [Act.put, List.setIfInBounds_toArray, List.set_cons_zero, List.set_cons_succ]
    refine q_run ?_ ?_ ?_ ?_
    · kernel_rfl
    rotate_left
    · intro w_ hw_
      have c3 := hw_.1.cell 3 (.bool m.hB) rfl
      have c8 := hw_.1.cell 8 (.int .i64 m.b) rfl
      have c13 := hw_.1.cell 13 (.string m.mode) rfl
      first | (go_simp; done) | (go_simp; with_reducible rfl) | (go_simp; rw [if_neg (by first | omega | (simp; omega))])
    try simp only [Act.put, List.setIfInBounds_toArray, List.set_cons_zero, List.set_cons_succ]
    refine q_call ?_ (.string tb) ?_ ?_ ?_ ?_ ?_
    · kernel_rfl
    rotate_left 2
    · intro w_ hw_
      go_simp
      refine ⟨?_, ?_⟩ <;> with_reducible rfl
    · intro w_ hw_
      have c3 := hw_.1.cell 3 (.bool m.hB) rfl
      have c8 := hw_.1.cell 8 (.int .i64 m.b) rfl
      have c13 := hw_.1.cell 13 (.string m.mode) rfl
      exact (dtb w_).mono fun _ _ ⟨h1_, h2_⟩ => ⟨h1_, hw_.1.below h2_, hw_.2.trans (h2_.mono (by have := hw_.2.size; omega))⟩
    try simp only [Act.put, List.setIfInBounds_toArray, List.set_cons_zero, List.set_cons_succ]
    refine q_run ?_ ?_ ?_ ?_
    · kernel_rfl
    rotate_left
    · intro w_ hw_
      have c3 := hw_.1.cell 3 (.bool m.hB) rfl
      have c8 := hw_.1.cell 8 (.int .i64 m.b) rfl
      have c13 := hw_.1.cell 13 (.string m.mode) rfl
      first | (go_simp; done) | (go_simp; with_reducible rfl) | (go_simp; rw [if_neg (by first | omega | (simp; omega))])
    try simp only [Act.put, List.setIfInBounds_toArray, List.set_cons_zero, List.set_cons_succ]
    refine q_run ?_ ?_ ?_ ?_
    · kernel_rfl
    rotate_left
    · intro w_ hw_
      have c3 := hw_.1.cell 3 (.bool m.hB) rfl
      have c8 := hw_.1.cell 8 (.int .i64 m.b) rfl
      have c13 := hw_.1.cell 13 (.string m.mode) rfl
      first | (go_simp; done) | (go_simp; with_reducible rfl) | (go_simp; rw [if_neg (by first | omega | (simp; omega))])
    try simp only [Act.put, List.setIfInBounds_toArray, List.set_cons_zero, List.set_cons_succ]
    refine q_run ?_ ?_ ?_ ?_
    · kernel_rfl
    rotate_left
    · intro w_ hw_
      have c3 := hw_.1.cell 3 (.bool m.hB) rfl
      have c8 := hw_.1.cell 8 (.int .i64 m.b) rfl
      have c13 := hw_.1.cell 13 (.string m.mode) rfl
      first | (go_simp; done) | (go_simp; with_reducible rfl) | (go_simp; rw [if_neg (by first | omega | (simp; omega))])
    try simp only [Act.put, List.setIfInBounds_toArray, List.set_cons_zero, List.set_cons_succ]
    refine q_run ?_ ?_ ?_ ?_
    · kernel_rfl
    rotate_left
    · intro w_ hw_
      have c3 := hw_.1.cell 3 (.bool m.hB) rfl
      have c8 := hw_.1.cell 8 (.int .i64 m.b) rfl
      have c13 := hw_.1.cell 13 (.string m.mode) rfl
      first | (go_simp; done) | (go_simp; with_reducible rfl) | (go_simp; rw [if_neg (by first | omega | (simp; omega))])
    try simp only [Act.put, List.setIfInBounds_toArray, List.set_cons_zero, List.set_cons_succ]
    refine q_run ?_ ?_ ?_ ?_
    · kernel_rfl
    rotate_left
    · intro w_ hw_
      have c3 := hw_.1.cell 3 (.bool m.hB) rfl
      have c8 := hw_.1.cell 8 (.int .i64 m.b) rfl
      have c13 := hw_.1.cell 13 (.string m.mode) rfl
      first | (go_simp; done) | (go_simp; with_reducible rfl) | (go_simp; rw [if_neg (by first | omega | (simp; omega))])
    try simp only [Act.put, List.setIfInBounds_toArray, List.set_cons_zero, List.set_cons_succ]
    refine q_call ?_ (.string y6) ?_ ?_ ?_ ?_ ?_
    · kernel_rfl
    rotate_left 2
    · intro w_ hw_
      go_simp
      refine ⟨?_, ?_⟩ <;> with_reducible rfl
    · intro w_ hw_
      have c3 := hw_.1.cell 3 (.bool m.hB) rfl
      have c8 := hw_.1.cell 8 (.int .i64 m.b) rfl
      have c13 := hw_.1.cell 13 (.string m.mode) rfl
      exact (mo6 w_).mono fun _ _ ⟨h1_, h2_⟩ => ⟨h1_, by rw [h2_]; exact hw_⟩
    try simp only [Act.put, List.setIfInBounds_toArray, List.set_cons_zero, List.set_cons_succ]
    refine q_run ?_ ?_ ?_ ?_
    · kernel_rfl
    rotate_left
    · intro w_ hw_
      have c3 := hw_.1.cell 3 (.bool m.hB) rfl
      have c8 := hw_.1.cell 8 (.int .i64 m.b) rfl
      have c13 := hw_.1.cell 13 (.string m.mode) rfl
      first | (go_simp; done) | (go_simp; with_reducible rfl) | (go_simp; rw [if_neg (by first | omega | (simp; omega))])
    try simp only [Act.put, List.setIfInBounds_toArray, List.set_cons_zero, List.set_cons_succ]
    refine q_nil ?_
    intro W_ hC_
    replace SS := Aside.mk hC_
    clear hC_
    go_wp2
    refine region_class (C := (fun w' => Blk w' H m.cells 37 ∧ Below H w w')) (by kernel_rfl) (by kernel_rfl) ⟨SS.out.1.below (pw_below_drewN (Below.refl _ _) 1), pw_below_drewN SS.out.2 1⟩ ?_
    refine q_run ?_ ?_ ?_ ?_
    · kernel_rfl
    rotate_left
    · intro w_ hw_
      have c4 := hw_.1.cell 4 (.bool m.hP) rfl
      have c9 := hw_.1.cell 9 (.int .i64 m.p) rfl
      first | (go_simp; done) | (go_simp; with_reducible rfl) | (go_simp; rw [if_neg (by first | omega | (simp; omega))])
    try simp only [Act.put, List.setIfInBounds_toArray, List.set_cons_zero, List.set_cons_succ]
    refine q_run ?_ ?_ ?_ ?_
    · kernel_rfl
    rotate_left
    · intro w_ hw_
      have c4 := hw_.1.cell 4 (.bool m.hP) rfl
      have c9 := hw_.1.cell 9 (.int .i64 m.p) rfl
      first | (go_simp; done) | (go_simp; with_reducible rfl) | (go_simp; rw [if_neg (by first | omega | (simp; omega))])
    try simp only [Act.put, List.setIfInBounds_toArray, List.set_cons_zero, List.set_cons_succ]
    refine q_run ?_ ?_ ?_ ?_
    · kernel_rfl
    rotate_left
    · intro w_ hw_
      have c4 := hw_.1.cell 4 (.bool m.hP) rfl
      have c9 := hw_.1.cell 9 (.int .i64 m.p) rfl
      first | (go_simp; done) | (go_simp; with_reducible rfl) | (go_simp; rw [if_neg (by first | omega | (simp; omega))])
    try simp only [Act.put, List.setIfInBounds_toArray, List.set_cons_zero, List.set_cons_succ]
    refine q_run ?_ ?_ ?_ ?_
    · kernel_rfl
    rotate_left
    · intro w_ hw_
      have c4 := hw_.1.cell 4 (.bool m.hP) rfl
      have c9 := hw_.1.cell 9 (.int .i64 m.p) rfl
      first | (go_simp; done) | (go_simp; with_reducible rfl) | (go_simp; rw [if_neg (by first | omega | (simp; omega))])
    try simp only [Act.put, List.setIfInBounds_toArray, List.set_cons_zero, List.set_cons_succ]
    refine q_run ?_ ?_ ?_ ?_
    · kernel_rfl
    rotate_left
    · intro w_ hw_
      have c4 := hw_.1.cell 4 (.bool m.hP) rfl
      have c9 := hw_.1.cell 9 (.int .i64 m.p) rfl
      first | (go_simp; done) | (go_simp; with_reducible rfl) | (go_simp; rw [if_neg (by first | omega | (simp; omega))])
    try simp only [Act.put, List.setIfInBounds_toArray, List.set_cons_zero, List.set_cons_succ]
    refine q_run ?_ ?_ ?_ ?_
    · kernel_rfl
    rotate_left
    · intro w_ hw_
      have c4 := hw_.1.cell 4 (.bool m.hP) rfl
      have c9 := hw_.1.cell 9 (.int .i64 m.p) rfl
      first | (go_simp; done) | (go_simp; with_reducible rfl) | (go_simp; rw [if_neg (by first | omega | (simp; omega))])
    try simp only [Act.put, List.setIfInBounds_toArray, List.set_cons_zero, List.set_cons_succ]
    refine q_call ?_ (.string tp) ?_ ?_ ?_ ?_ ?_
    · kernel_rfl
    rotate_left 2
    · intro w_ hw_
      go_simp
      refine ⟨?_, ?_⟩ <;> with_reducible rfl
    · intro w_ hw_
      have c4 := hw_.1.cell 4 (.bool m.hP) rfl
      have c9 := hw_.1.cell 9 (.int .i64 m.p) rfl
      exact (dtp w_).mono fun _ _ ⟨h1_, h2_⟩ => ⟨h1_, hw_.1.below h2_, hw_.2.trans (h2_.mono (by have := hw_.2.size; omega))⟩
    try simp only [Act.put, List.setIfInBounds_toArray, List.set_cons_zero, List.set_cons_succ]
    refine q_run ?_ ?_ ?_ ?_
    · kernel_rfl
    rotate_left
    · intro w_ hw_
      have c4 := hw_.1.cell 4 (.bool m.hP) rfl
      have c9 := hw_.1.cell 9 (.int .i64 m.p) rfl
      first | (go_simp; done) | (go_simp; with_reducible rfl) | (go_simp; rw [if_neg (by first | omega | (simp; omega))])
    try simp only [Act.put, List.setIfInBounds_toArray, List.set_cons_zero, List.set_cons_succ]
    refine q_call ?_ (.string y7) ?_ ?_ ?_ ?_ ?_
    · kernel_rfl
    rotate_left 2
    · intro w_ hw_
      go_simp
      refine ⟨?_, ?_⟩ <;> with_reducible rfl
    · intro w_ hw_
      have c4 := hw_.1.cell 4 (.bool m.hP) rfl
      have c9 := hw_.1.cell 9 (.int .i64 m.p) rfl
      exact (mo7 w_).mono fun _ _ ⟨h1_, h2_⟩ => ⟨h1_, by rw [h2_]; exact hw_⟩
    try simp only [Act.put, List.setIfInBounds_toArray, List.set_cons_zero, List.set_cons_succ]
    refine q_run ?_ ?_ ?_ ?_
    · kernel_rfl
    rotate_left
    · intro w_ hw_
      have c4 := hw_.1.cell 4 (.bool m.hP) rfl
      have c9 := hw_.1.cell 9 (.int .i64 m.p) rfl
      first | (go_simp; done) | (go_simp; with_reducible rfl) | (go_simp; rw [if_neg (by first | omega | (simp; omega))])
    try simp only [Act.put, List.setIfInBounds_toArray, List.set_cons_zero, List.set_cons_succ]
    refine q_run ?_ ?_ ?_ ?_
    · kernel_rfl
    rotate_left
    · intro w_ hw_
      have c4 := hw_.1.cell 4 (.bool m.hP) rfl
      have c9 := hw_.1.cell 9 (.int .i64 m.p) rfl
      first | (go_simp; done) | (go_simp; with_reducible rfl) | (go_simp; rw [if_neg (by first | omega | (simp; omega))])
    try simp only [Act.put, List.setIfInBounds_toArray, List.set_cons_zero, List.set_cons_succ]
    refine q_nil ?_
    intro W_ hC_
    replace SS := Aside.mk hC_
    clear hC_
    go_wp2
    go_ret2
    exact ⟨by rw [HT.out]; rfl, SS.out.2⟩
  | true =>
    rw [hU] at x2
    have x3 := SS.out.1.cell 7 (.int .i64 m.u) rfl
    have mo5' := mo5 hU
    have dtu' := dtu hU
    go_wp2_with (first | (go_at_call 28; (with_reducible refine (dtu' _).mono ?_); rintro e W_ ⟨rfl, hb_⟩; replace SS := Aside.mk (show Blk _ H _ _ ∧ Below H _ _ from ⟨SS.out.1.below hb_, SS.out.2.trans (hb_.mono (by have := SS.out.2.size; omega))⟩); clear hb_ x2 x3) | (go_at_call 26; (with_reducible refine (mo5' _).mono ?_); rintro e w_ ⟨rfl, hw_⟩; have hw2_ := hw_.symm; subst hw2_; clear hw_))
    refine region_class (C := (fun w' => Blk w' H m.cells 37 ∧ Below H w w')) (by kernel_rfl) (by kernel_rfl) ⟨SS.out.1.below (pw_below_drewN (Below.refl _ _) 1), pw_below_drewN SS.out.2 1⟩ ?_
    refine q_run ?_ ?_ ?_ ?_
    · kernel_rfl
    rotate_left
    · intro w_ hw_
      have c3 := hw_.1.cell 3 (.bool m.hB) rfl
      have c8 := hw_.1.cell 8 (.int .i64 m.b) rfl
      have c13 := hw_.1.cell 13 (.string m.mode) rfl
      first | (go_simp; done) | (go_simp; with_reducible rfl) | (go_simp; rw [if_neg (by first | omega | (simp; omega))])
    try simp only [Act.put, List.setIfInBounds_toArray, List.set_cons_zero, List.set_cons_succ]
    refine q_run ?_ ?_ ?_ ?_
    · kernel_rfl
    rotate_left
    · intro w_ hw_
      have c3 := hw_.1.cell 3 (.bool m.hB) rfl
      have c8 := hw_.1.cell 8 (.int .i64 m.b) rfl
      have c13 := hw_.1.cell 13 (.string m.mode) rfl
      first | (go_simp; done) | (go_simp; with_reducible rfl) | (go_simp; rw [if_neg (by first | omega | (simp; omega))])
    try simp only [Act.put, List.setIfInBounds_toArray, List.set_cons_zero, List.set_cons_succ]
    refine q_run ?_ ?_ ?_ ?_
    · kernel_rfl
    rotate_left
    · intro w_ hw_
      have c3 := hw_.1.cell 3 (.bool m.hB) rfl
      have c8 := hw_.1.cell 8 (.int .i64 m.b) rfl
      have c13 := hw_.1.cell 13 (.string m.mode) rfl
      first | (go_simp; done) | (go_simp; with_reducible rfl) | (go_simp; rw [if_neg (by first | omega | (simp; omega))])
    try simp only [Act.put, List.setIfInBounds_toArray, List.set_cons_zero, List.set_cons_succ]
    refine q_run ?_ ?_ ?_ ?_
    · kernel_rfl
    rotate_left
    · intro w_ hw_
      have c3 := hw_.1.cell 3 (.bool m.hB) rfl
      have c8 := hw_.1.cell 8 (.int .i64 m.b) rfl
      have c13 := hw_.1.cell 13 (.string m.mode) rfl
      first | (go_simp; done) | (go_simp; with_reducible rfl) | (go_simp; rw [if_neg (by first | omega | (simp; omega))])
    try simp only [Act.put, List.setIfInBounds_toArray, List.set_cons_zero, List.set_cons_succ]
    refine q_run ?_ ?_ ?_ ?_
    · kernel_rfl
    rotate_left
    · intro w_ hw_
      have c3 := hw_.1.cell 3 (.bool m.hB) rfl
      have c8 := hw_.1.cell 8 (.int .i64 m.b) rfl
      have c13 := hw_.1.cell 13 (.string m.mode) rfl
      first | (go_simp; done) | (go_simp; with_reducible rfl) | (go_simp; rw [if_neg (by first | omega | (simp; omega))])
    try simp only [Act.put, List.setIfInBounds_toArray, List.set_cons_zero, List.set_cons_succ]
    refine q_run ?_ ?_ ?_ ?_
    · kernel_rfl
    rotate_left
    · intro w_ hw_
      have c3 := hw_.1.cell 3 (.bool m.hB) rfl
      have c8 := hw_.1.cell 8 (.int .i64 m.b) rfl
      have c13 := hw_.1.cell 13 (.string m.mode) rfl
      first | (go_simp; done) | (go_simp; with_reducible rfl) | (go_simp; rw [if_neg (by first | omega | (simp; omega))])
    try simp only [Act.put, List.setIfInBounds_toArray, List.set_cons_zero, List.set_cons_succ]
    refine q_call ?_ (.string tb) ?_ ?_ ?_ ?_ ?_
    · kernel_rfl
    rotate_left 2
    · intro w_ hw_
      go_simp
      refine ⟨?_, ?_⟩ <;> with_reducible rfl
    · intro w_ hw_
      have c3 := hw_.1.cell 3 (.bool m.hB) rfl
      have c8 := hw_.1.cell 8 (.int .i64 m.b) rfl
      have c13 := hw_.1.cell 13 (.string m.mode) rfl
      exact (dtb w_).mono fun _ _ ⟨h1_, h2_⟩ => ⟨h1_, hw_.1.below h2_, hw_.2.trans (h2_.mono (by have := hw_.2.size; omega))⟩
    try simp only [Act.put, List.setIfInBounds_toArray, List.set_cons_zero, List.set_cons_succ]
    refine q_run ?_ ?_ ?_ ?_
    · kernel_rfl
    rotate_left
    · intro w_ hw_
      have c3 := hw_.1.cell 3 (.bool m.hB) rfl
      have c8 := hw_.1.cell 8 (.int .i64 m.b) rfl
      have c13 := hw_.1.cell 13 (.string m.mode) rfl
      first | (go_simp; done) | (go_simp; with_reducible rfl) | (go_simp; rw [if_neg (by first | omega | (simp; omega))])
    try simp only [Act.put, List.setIfInBounds_toArray, List.set_cons_zero, List.set_cons_succ]
    refine q_run ?_ ?_ ?_ ?_
    · kernel_rfl
    rotate_left
    · intro w_ hw_
      have c3 := hw_.1.cell 3 (.bool m.hB) rfl
      have c8 := hw_.1.cell 8 (.int .i64 m.b) rfl
      have c13 := hw_.1.cell 13 (.string m.mode) rfl
      first | (go_simp; done) | (go_simp; with_reducible rfl) | (go_simp; rw [if_neg (by first | omega | (simp; omega))])
    try simp only [Act.put, List.setIfInBounds_toArray, List.set_cons_zero, List.set_cons_succ]
    refine q_run ?_ ?_ ?_ ?_
    · kernel_rfl
    rotate_left
    · intro w_ hw_
      have c3 := hw_.1.cell 3 (.bool m.hB) rfl
      have c8 := hw_.1.cell 8 (.int .i64 m.b) rfl
      have c13 := hw_.1.cell 13 (.string m.mode) rfl
      first | (go_simp; done) | (go_simp; with_reducible rfl) | (go_simp; rw [if_neg (by first | omega | (simp; omega))])
    try simp only [Act.put, List.setIfInBounds_toArray, List.set_cons_zero, List.set_cons_succ]
    refine q_run ?_ ?_ ?_ ?_
    · kernel_rfl
    rotate_left
    · intro w_ hw_
      have c3 := hw_.1.cell 3 (.bool m.hB) rfl
      have c8 := hw_.1.cell 8 (.int .i64 m.b) rfl
      have c13 := hw_.1.cell 13 (.string m.mode) rfl
      first | (go_simp; done) | (go_simp; with_reducible rfl) | (go_simp; rw [if_neg (by first | omega | (simp; omega))])
    try simp only [Act.put, List.setIfInBounds_toArray, List.set_cons_zero, List.set_cons_succ]
    refine q_run ?_ ?_ ?_ ?_
    · kernel_rfl
    rotate_left
    · intro w_ hw_
      have c3 := hw_.1.cell 3 (.bool m.hB) rfl
      have c8 := hw_.1.cell 8 (.int .i64 m.b) rfl
      have c13 := hw_.1.cell 13 (.string m.mode) rfl
      first | (go_simp; done) | (go_simp; with_reducible rfl) | (go_simp; rw [if_neg (by first | omega | (simp; omega))])
    try simp only [Act.put, List.setIfInBounds_toArray, List.set_cons_zero, List.set_cons_succ]
    refine q_call ?_ (.string y6) ?_ ?_ ?_ ?_ ?_
    · kernel_rfl
    rotate_left 2
    · intro w_ hw_
      go_simp
      refine ⟨?_, ?_⟩ <;> with_reducible rfl
    · intro w_ hw_
      have c3 := hw_.1.cell 3 (.bool m.hB) rfl
      have c8 := hw_.1.cell 8 (.int .i64 m.b) rfl
      have c13 := hw_.1.cell 13 (.string m.mode) rfl
      exact (mo6 w_).mono fun _ _ ⟨h1_, h2_⟩ => ⟨h1_, by rw [h2_]; exact hw_⟩
    try simp only [Act.put, List.setIfInBounds_toArray, List.set_cons_zero, List.set_cons_succ]
    refine q_run ?_ ?_ ?_ ?_
    · kernel_rfl
    rotate_left
    · intro w_ hw_
      have c3 := hw_.1.cell 3 (.bool m.hB) rfl
      have c8 := hw_.1.cell 8 (.int .i64 m.b) rfl
      have c13 := hw_.1.cell 13 (.string m.mode) rfl
      first | (go_simp; done) | (go_simp; with_reducible rfl) | (go_simp; rw [if_neg (by first | omega | (simp; omega))])
    try simp only [Act.put, List.setIfInBounds_toArray, List.set_cons_zero, List.set_cons_succ]
    refine q_nil ?_
    intro W_ hC_
    replace SS := Aside.mk hC_
    clear hC_
    go_wp2
    refine region_class (C := (fun w' => Blk w' H m.cells 37 ∧ Below H w w')) (by kernel_rfl) (by kernel_rfl) ⟨SS.out.1.below (pw_below_drewN (Below.refl _ _) 1), pw_below_drewN SS.out.2 1⟩ ?_
    refine q_run ?_ ?_ ?_ ?_
    · kernel_rfl
    rotate_left
    · intro w_ hw_
      have c4 := hw_.1.cell 4 (.bool m.hP) rfl
      have c9 := hw_.1.cell 9 (.int .i64 m.p) rfl
      first | (go_simp; done) | (go_simp; with_reducible rfl) | (go_simp; rw [if_neg (by first | omega | (simp; omega))])
    try simp only [Act.put, List.setIfInBounds_toArray, List.set_cons_zero, List.set_cons_succ]
    refine q_run ?_ ?_ ?_ ?_
    · kernel_rfl
    rotate_left
    · intro w_ hw_
      have c4 := hw_.1.cell 4 (.bool m.hP) rfl
      have c9 := hw_.1.cell 9 (.int .i64 m.p) rfl
      first | (go_simp; done) | (go_simp; with_reducible rfl) | (go_simp; rw [if_neg (by first | omega | (simp; omega))])
    try simp only [Act.put, List.setIfInBounds_toArray, List.set_cons_zero, List.set_cons_succ]
    refine q_run ?_ ?_ ?_ ?_
    · kernel_rfl
    rotate_left
    · intro w_ hw_
      have c4 := hw_.1.cell 4 (.bool m.hP) rfl
      have c9 := hw_.1.cell 9 (.int .i64 m.p) rfl
      first | (go_simp; done) | (go_simp; with_reducible rfl) | (go_simp; rw [if_neg (by first | omega | (simp; omega))])
    try simp only [Act.put, List.setIfInBounds_toArray, List.set_cons_zero, List.set_cons_succ]
    refine q_run ?_ ?_ ?_ ?_
    · kernel_rfl
    rotate_left
    · intro w_ hw_
      have c4 := hw_.1.cell 4 (.bool m.hP) rfl
      have c9 := hw_.1.cell 9 (.int .i64 m.p) rfl
      first | (go_simp; done) | (go_simp; with_reducible rfl) | (go_simp; rw [if_neg (by first | omega | (simp; omega))])
    try simp only [Act.put, List.setIfInBounds_toArray, List.set_cons_zero, List.set_cons_succ]
    refine q_run ?_ ?_ ?_ ?_
    · kernel_rfl
    rotate_left
    · intro w_ hw_
      have c4 := hw_.1.cell 4 (.bool m.hP) rfl
      have c9 := hw_.1.cell 9 (.int .i64 m.p) rfl
      first | (go_simp; done) | (go_simp; with_reducible rfl) | (go_simp; rw [if_neg (by first | omega | (simp; omega))])
    try simp only [Act.put, List.setIfInBounds_toArray, List.set_cons_zero, List.set_cons_succ]
    refine q_run ?_ ?_ ?_ ?_
    · kernel_rfl
    rotate_left
    · intro w_ hw_
      have c4 := hw_.1.cell 4 (.bool m.hP) rfl
      have c9 := hw_.1.cell 9 (.int .i64 m.p) rfl
      first | (go_simp; done) | (go_simp; with_reducible rfl) | (go_simp; rw [if_neg (by first | omega | (simp; omega))])
    try simp only [Act.put, List.setIfInBounds_toArray, List.set_cons_zero, List.set_cons_succ]
    refine q_call ?_ (.string tp) ?_ ?_ ?_ ?_ ?_
    · kernel_rfl
    rotate_left 2
    · intro w_ hw_
      go_simp
      refine ⟨?_, ?_⟩ <;> with_reducible rfl
    · intro w_ hw_
      have c4 := hw_.1.cell 4 (.bool m.hP) rfl
      have c9 := hw_.1.cell 9 (.int .i64 m.p) rfl
      exact (dtp w_).mono fun _ _ ⟨h1_, h2_⟩ => ⟨h1_, hw_.1.below h2_, hw_.2.trans (h2_.mono (by have := hw_.2.size; omega))⟩
    try simp only [Act.put, List.setIfInBounds_toArray, List.set_cons_zero, List.set_cons_succ]
    refine q_run ?_ ?_ ?_ ?_
    · kernel_rfl
    rotate_left
    · intro w_ hw_
      have c4 := hw_.1.cell 4 (.bool m.hP) rfl
      have c9 := hw_.1.cell 9 (.int .i64 m.p) rfl
      first | (go_simp; done) | (go_simp; with_reducible rfl) | (go_simp; rw [if_neg (by first | omega | (simp; omega))])
    try simp only [Act.put, List.setIfInBounds_toArray, List.set_cons_zero, List.set_cons_succ]
    refine q_call ?_ (.string y7) ?_ ?_ ?_ ?_ ?_
    · kernel_rfl
    rotate_left 2
    · intro w_ hw_
      go_simp
      refine ⟨?_, ?_⟩ <;> with_reducible rfl
    · intro w_ hw_
      have c4 := hw_.1.cell 4 (.bool m.hP) rfl
      have c9 := hw_.1.cell 9 (.int .i64 m.p) rfl
      exact (mo7 w_).mono fun _ _ ⟨h1_, h2_⟩ => ⟨h1_, by rw [h2_]; exact hw_⟩
    try simp only [Act.put, List.setIfInBounds_toArray, List.set_cons_zero, List.set_cons_succ]
    refine q_run ?_ ?_ ?_ ?_
    · kernel_rfl
    rotate_left
    · intro w_ hw_
      have c4 := hw_.1.cell 4 (.bool m.hP) rfl
      have c9 := hw_.1.cell 9 (.int .i64 m.p) rfl
      first | (go_simp; done) | (go_simp; with_reducible rfl) | (go_simp; rw [if_neg (by first | omega | (simp; omega))])
    try simp only [Act.put, List.setIfInBounds_toArray, List.set_cons_zero, List.set_cons_succ]
    refine q_run ?_ ?_ ?_ ?_
    · kernel_rfl
    rotate_left
    · intro w_ hw_
      have c4 := hw_.1.cell 4 (.bool m.hP) rfl
      have c9 := hw_.1.cell 9 (.int .i64 m.p) rfl
      first | (go_simp; done) | (go_simp; with_reducible rfl) | (go_simp; rw [if_neg (by first | omega | (simp; omega))])
    try simp only [Act.put, List.setIfInBounds_toArray, List.set_cons_zero, List.set_cons_succ]
    refine q_nil ?_
    intro W_ hC_
    replace SS := Aside.mk hC_
    clear hC_
    go_wp2
    go_ret2
    exact ⟨by rw [HT.out]; rfl, SS.out.2⟩
theorem refPrintMail_any (m : Pm.Ml) (w : World) : Calls Tryz.prog 10 #[.agg m.cells] w fun e w' => e = .returned (.tuple #[.string (if m.right = 0 then m.text else ⟨#[]⟩), .int .i64 m.right]) ∧ Below w.heap.size w w' := by
  by_cases h : m.right = 0
  · rw [if_pos h, h]
    exact refPrintMail_ok m h w
  · rw [if_neg h]
    exact refPrintMail_bad m _ rfl h w
end Go.Proofs.YtfffdbjfhdkheaaGreatDoor
