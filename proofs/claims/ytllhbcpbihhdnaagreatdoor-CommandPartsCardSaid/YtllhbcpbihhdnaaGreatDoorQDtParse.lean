/-
  Lemmas on the way to the date laws (DtParse): what each function does, walked once, and plain laws of dates.
-/
import Derived.Test.YtllhbcpbihhdnaaGreatDoorQ1
import Derived.Test.YtllhbcpbihhdnaaGreatDoorQ3
set_option linter.unusedVariables false
set_option linter.unusedSimpArgs false
namespace Go.Proofs.YtllhbcpbihhdnaaGreatDoor
open Go.RowKit
set_option maxRecDepth 100000
set_option maxHeartbeats 2000000 in
theorem parse_none (s : ByteArray) (w : World) (y mo d h m x : Int) (s1 s2 s3 s4 s5 s6 : List UInt8) (b1 b2 b3 b4 b5 b6 : Bool)
    (h1 : DtCal.num s.data.toList false 4 [45] = (y, s1, b1)) (h2 : DtCal.num s1 b1 2 [45] = (mo, s2, b2)) (h3 : DtCal.num s2 b2 2 [84] = (d, s3, b3))
    (h4 : DtCal.num s3 b3 2 [58] = (h, s4, b4)) (h5 : DtCal.num s4 b4 2 [58] = (m, s5, b5)) (h6 : DtCal.num s5 b5 2 [] = (x, s6, b6)) (hp : ¬ Lib.hasPrefix s6 [43] = true) (hm : ¬ Lib.hasPrefix s6 [45] = true) :
    Calls Tryz.prog 50 #[.string s] w fun e w' => e = .returned (.tuple #[.int .i64 (DtCal.parse2 y mo d h m x (0, 0, 0, b6 || !(s6 == [90]))).1, .int .i64 (DtCal.parse2 y mo d h m x (0, 0, 0, b6 || !(s6 == [90]))).2]) ∧ Below w.heap.size w w' := by
  unfold DtCal.parse2
  have q1 := DtCal.num_bd h1 (by omega)
  have q2 := DtCal.num_bd h2 (by omega)
  have q3 := DtCal.num_bd h3 (by omega)
  have q4 := DtCal.num_bd h4 (by omega)
  have q5 := DtCal.num_bd h5 (by omega)
  have q6 := DtCal.num_bd h6 (by omega)
  have H1 := Lib.hid h1
  have H2 := Lib.hid h2
  have H3 := Lib.hid h3
  have H4 := Lib.hid h4
  have H5 := Lib.hid h5
  have H6 := Lib.hid h6
  clear h1 h2 h3 h4 h5 h6
  have D := DtCal.days_bd y mo d
  have S0 := St.start w s
  by_cases hb : (b6 || !(s6 == [90])) = true
  · rw [if_pos hb]
    by_cases h90 : s6 = [90]
    all_goals
      go_enter Tryz.func50, Tryz.ntmps50
      go_wp2_with (first | (go_at_call 92; refine (num_st w _ _ _ _ _ _ _ _ _ (by first | assumption | exact St.alloc (by assumption) _ _ | exact St.setS (by assumption) _) (by assumption) (by decide)).mono ?_; rintro e w1 ⟨rfl, S1⟩; have cS := cell_of_one S1.str; have cB := cell_of_one S1.bad; have fB := free_of_one S1.bad; have fS := free_of_one S1.str; try (have zn := Nat.ne_of_lt (S1.own _ (List.mem_singleton_self _)).1; have zs := Ne.symm zn; have z0 := Blk.cell (S1.own _ (List.mem_singleton_self _)).2 0 _ rfl; have z1 := Blk.cell (S1.own _ (List.mem_singleton_self _)).2 1 _ rfl; have z2 := Blk.cell (S1.own _ (List.mem_singleton_self _)).2 2 _ rfl)) | (go_at_call 32; refine (Tryz.strings_HasPrefix _ _ _).mono ?_; rintro e w1 ⟨rfl, rfl⟩) | (go_at_call 93; refine (days_any _ _ _ _).mono ?_; rintro e w2 ⟨rfl, hbD⟩))
      all_goals first
        | (go_ret2; exact ⟨rfl, by first | exact (St.low (by assumption)) | exact (St.setB (by assumption) _).low⟩)
        | (exfalso; simp_all; done)
  · rw [if_neg hb]
    have hz : (b6 || !(s6 == [90])) = false := by simpa using hb
    have h90 : s6 = [90] := by simp at hz; exact hz.2
    obtain rfl : b6 = false := by simp at hz; exact hz.1
    clear hz hb
    have DE := DtCal.days_err y mo d
    have T : DtCal.time (DtCal.days y mo d).1 h m x (0, 0, 0, false || !(s6 == [90])) = (DtCal.days y mo d).1 * 86400 + h * 3600 + m * 60 + x := by simp [DtCal.time]
    rw [T]
    clear T
    have hdays := fun W => days_any y mo d W
    generalize DtCal.days y mo d = dd at *
    obtain ⟨n, er⟩ := dd
    simp only at D DE ⊢
    by_cases hc : er ≠ 0 ∨ h > 23 ∨ m > 59 ∨ x > 59 ∨ (0 : Int) > 23 ∨ (0 : Int) > 59 ∨ n * 86400 + h * 3600 + m * 60 + x < 0 ∨ n * 86400 + h * 3600 + m * 60 + x ≥ 253402300800
    · rw [if_pos hc]
      go_enter Tryz.func50, Tryz.ntmps50
      go_wp2_with (first | (go_at_call 92; refine (num_st w _ _ _ _ _ _ _ _ _ (by first | assumption | exact St.alloc (by assumption) _ _ | exact St.setS (by assumption) _) (by assumption) (by decide)).mono ?_; rintro e w1 ⟨rfl, S1⟩; have cS := cell_of_one S1.str; have cB := cell_of_one S1.bad; have fB := free_of_one S1.bad; have fS := free_of_one S1.str; try (have zn := Nat.ne_of_lt (S1.own _ (List.mem_singleton_self _)).1; have zs := Ne.symm zn; have z0 := Blk.cell (S1.own _ (List.mem_singleton_self _)).2 0 _ rfl; have z1 := Blk.cell (S1.own _ (List.mem_singleton_self _)).2 1 _ rfl; have z2 := Blk.cell (S1.own _ (List.mem_singleton_self _)).2 2 _ rfl)) | (go_at_call 32; refine (Tryz.strings_HasPrefix _ _ _).mono ?_; rintro e w1 ⟨rfl, rfl⟩) | (go_at_call 93; refine (hdays _).mono ?_; rintro e w2 ⟨rfl, hbD⟩))
      all_goals first
        | (go_ret2; exact ⟨rfl, by first | exact Below.next (St.low (by assumption)) (by assumption) (Nat.le_refl _)⟩)
        | (exfalso; omega)
    · rw [if_neg hc]
      go_enter Tryz.func50, Tryz.ntmps50
      go_wp2_with (first | (go_at_call 92; refine (num_st w _ _ _ _ _ _ _ _ _ (by first | assumption | exact St.alloc (by assumption) _ _ | exact St.setS (by assumption) _) (by assumption) (by decide)).mono ?_; rintro e w1 ⟨rfl, S1⟩; have cS := cell_of_one S1.str; have cB := cell_of_one S1.bad; have fB := free_of_one S1.bad; have fS := free_of_one S1.str; try (have zn := Nat.ne_of_lt (S1.own _ (List.mem_singleton_self _)).1; have zs := Ne.symm zn; have z0 := Blk.cell (S1.own _ (List.mem_singleton_self _)).2 0 _ rfl; have z1 := Blk.cell (S1.own _ (List.mem_singleton_self _)).2 1 _ rfl; have z2 := Blk.cell (S1.own _ (List.mem_singleton_self _)).2 2 _ rfl)) | (go_at_call 32; refine (Tryz.strings_HasPrefix _ _ _).mono ?_; rintro e w1 ⟨rfl, rfl⟩) | (go_at_call 93; refine (hdays _).mono ?_; rintro e w2 ⟨rfl, hbD⟩))
      all_goals first
        | (go_ret2; exact ⟨rfl, by first | exact Below.next (St.low (by assumption)) (by assumption) (Nat.le_refl _)⟩)
        | (exfalso; omega)
end Go.Proofs.YtllhbcpbihhdnaaGreatDoor
