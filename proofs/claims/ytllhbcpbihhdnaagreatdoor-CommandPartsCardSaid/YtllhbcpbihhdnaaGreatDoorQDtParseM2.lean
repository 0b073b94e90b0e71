/-
  Lemmas on the way to the date laws (DtParseM2): what each function does, walked once, and plain laws of dates.
-/
import Derived.Test.YtllhbcpbihhdnaaGreatDoorQDtParseM
set_option linter.unusedVariables false
set_option linter.unusedSimpArgs false
namespace Go.Proofs.YtllhbcpbihhdnaaGreatDoor
open Go.RowKit
set_option maxRecDepth 100000
set_option maxHeartbeats 4000000 in
theorem parse_minus_on (s : ByteArray) (w : World) (y mo d h m x : Int) (s1 s2 s3 s4 s5 s6 : List UInt8) (b1 b2 b3 b4 b5 b6 : Bool)
    (h1 : DtCal.num s.data.toList false 4 [45] = (y, s1, b1)) (h2 : DtCal.num s1 b1 2 [45] = (mo, s2, b2)) (h3 : DtCal.num s2 b2 2 [84] = (d, s3, b3))
    (h4 : DtCal.num s3 b3 2 [58] = (h, s4, b4)) (h5 : DtCal.num s4 b4 2 [58] = (m, s5, b5)) (h6 : DtCal.num s5 b5 2 [] = (x, s6, b6)) (hp : Lib.hasPrefix s6 [45] = true) (hm : ¬ Lib.hasPrefix s6 [43] = true)
    (zh zm : Int) (s7 : List UInt8) (b7 : Bool) (h7 : DtCal.num (s6.drop 1) b6 2 [58] = (zh, s7, b7)) (h8 : DtCal.num s7 b7 2 [] = (zm, [], false)) (n er : Int) (D : 0 ≤ n ∧ n ≤ 2932896) (hdays : ∀ W, Calls Tryz.prog 93 #[.agg #[.int .i64 y, .int .i64 mo, .int .i64 d]] W fun e w' => e = .returned (.tuple #[.int .i64 n, .int .i64 er]) ∧ Below W.heap.size W w') (hc : ¬ (er ≠ 0 ∨ h > 23 ∨ m > 59 ∨ x > 59 ∨ zh > 23 ∨ zm > 59 ∨ n * 86400 + h * 3600 + m * 60 + x + 1 * (zh * 3600 + zm * 60) < 0 ∨ n * 86400 + h * 3600 + m * 60 + x + 1 * (zh * 3600 + zm * 60) ≥ 253402300800)) :
    Calls Tryz.prog 50 #[.string s] w fun e w' => e = .returned (.tuple #[.int .i64 (n * 86400 + h * 3600 + m * 60 + x + 1 * (zh * 3600 + zm * 60)), .int .i64 0]) ∧ Below w.heap.size w w' := by
  have q7 := DtCal.num_bd h7 (by omega)
  have q8 := DtCal.num_bd h8 (by omega)
  have hlen : 1 ≤ s6.length := by
    cases s6 with
    | nil => simp [Lib.hasPrefix] at hp
    | cons a l => simp
  have e6 : ((⟨s6.toArray⟩ : ByteArray).extract 1 s6.length).data.toList = s6.drop 1 := by
    rw [Lib.extract_data]; simp; exact List.take_of_length_le (by simp)
  rw [← e6] at h7
  have H7 := Lib.hid h7
  have H8 := Lib.hid h8
  clear h7 h8 e6
  have q1 := DtCal.num_bd h1 (by omega)
  have q2 := DtCal.num_bd h2 (by omega)
  have q3 := DtCal.num_bd h3 (by omega)
  have q4 := DtCal.num_bd h4 (by omega)
  have q5 := DtCal.num_bd h5 (by omega)
  have q6 := DtCal.num_bd h6 (by omega)
  have H1 := Lib.hid h1
  have H2 := Lib.hid h2
  have H3 := Lib.hid h3
  have H4 := Lib.hid h4
  have H5 := Lib.hid h5
  have H6 := Lib.hid h6
  clear h1 h2 h3 h4 h5 h6
  have S1 := St.start w s
  go_enter Tryz.func50, Tryz.ntmps50
  go_wp2_with (first | (go_at_call 92; refine (num_st w _ _ _ _ _ _ _ _ _ (by first | assumption | exact St.alloc (by assumption) _ _ | exact St.setS (by assumption) _) (by assumption) (by decide)).mono ?_; (try clear cS); (try clear cB); (try clear fB); (try clear fS); (try clear z0); (try clear z1); (try clear z2); (try clear zn); (try clear zs); rintro e w1 ⟨rfl, S2⟩; clear S1; have S1 := S2; clear S2; have cS := cell_of_one S1.str; have cB := cell_of_one S1.bad; have fB := free_of_one S1.bad; have fS := free_of_one S1.str; try (have zn := Nat.ne_of_lt (S1.own _ (List.mem_singleton_self _)).1; have zs := Ne.symm zn; have z0 := Blk.cell (S1.own _ (List.mem_singleton_self _)).2 0 _ rfl; have z1 := Blk.cell (S1.own _ (List.mem_singleton_self _)).2 1 _ rfl; have z2 := Blk.cell (S1.own _ (List.mem_singleton_self _)).2 2 _ rfl)) | (go_at_call 32; refine (Tryz.strings_HasPrefix _ _ _).mono ?_; rintro e w1 ⟨rfl, rfl⟩) | (go_at_call 93; refine (hdays _).mono ?_; rintro e w2 ⟨rfl, hbD⟩))
  all_goals first
    | (go_ret2; refine ⟨congrArg (fun z => Ending.returned (.tuple #[.int .i64 z, .int .i64 0])) (by omega), by first | exact Below.next (St.low (by assumption)) (by assumption) (Nat.le_refl _) | exact Below.next (St.setB (by assumption) _).low (by assumption) (Nat.le_refl _)⟩)
    | (exfalso; omega)
theorem parse_minus (s : ByteArray) (w : World) (y mo d h m x : Int) (s1 s2 s3 s4 s5 s6 : List UInt8) (b1 b2 b3 b4 b5 b6 : Bool)
    (h1 : DtCal.num s.data.toList false 4 [45] = (y, s1, b1)) (h2 : DtCal.num s1 b1 2 [45] = (mo, s2, b2)) (h3 : DtCal.num s2 b2 2 [84] = (d, s3, b3))
    (h4 : DtCal.num s3 b3 2 [58] = (h, s4, b4)) (h5 : DtCal.num s4 b4 2 [58] = (m, s5, b5)) (h6 : DtCal.num s5 b5 2 [] = (x, s6, b6)) (hp : Lib.hasPrefix s6 [45] = true) (hm : ¬ Lib.hasPrefix s6 [43] = true)
    (zh zm : Int) (s7 s8 : List UInt8) (b7 b8 : Bool) (h7 : DtCal.num (s6.drop 1) b6 2 [58] = (zh, s7, b7)) (h8 : DtCal.num s7 b7 2 [] = (zm, s8, b8)) :
    Calls Tryz.prog 50 #[.string s] w fun e w' => e = .returned (.tuple #[.int .i64 (DtCal.parse2 y mo d h m x (1, zh, zm, b8 || !(s8 == []))).1, .int .i64 (DtCal.parse2 y mo d h m x (1, zh, zm, b8 || !(s8 == []))).2]) ∧ Below w.heap.size w w' := by
  unfold DtCal.parse2
  by_cases hb : (b8 || !(s8 == [])) = true
  · rw [if_pos hb]
    exact parse_minus_bad s w y mo d h m x s1 s2 s3 s4 s5 s6 b1 b2 b3 b4 b5 b6 h1 h2 h3 h4 h5 h6 hp hm zh zm s7 s8 b7 b8 h7 h8 hb
  · rw [if_neg hb]
    have hz : (b8 || !(s8 == [])) = false := by simpa using hb
    obtain ⟨rfl, rfl⟩ : b8 = false ∧ s8 = [] := by simpa using hz
    clear hz hb
    have T : DtCal.time (DtCal.days y mo d).1 h m x (1, zh, zm, false || !(([] : List UInt8) == [])) = (DtCal.days y mo d).1 * 86400 + h * 3600 + m * 60 + x + 1 * (zh * 3600 + zm * 60) := rfl
    rw [T]
    clear T
    have hdays := fun W => days_any y mo d W
    have D := DtCal.days_bd y mo d
    generalize DtCal.days y mo d = dd at *
    obtain ⟨n, er⟩ := dd
    simp only at D hdays ⊢
    by_cases hc : er ≠ 0 ∨ h > 23 ∨ m > 59 ∨ x > 59 ∨ zh > 23 ∨ zm > 59 ∨ n * 86400 + h * 3600 + m * 60 + x + 1 * (zh * 3600 + zm * 60) < 0 ∨ n * 86400 + h * 3600 + m * 60 + x + 1 * (zh * 3600 + zm * 60) ≥ 253402300800
    · rw [if_pos hc]
      exact parse_minus_off s w y mo d h m x s1 s2 s3 s4 s5 s6 b1 b2 b3 b4 b5 b6 h1 h2 h3 h4 h5 h6 hp hm zh zm s7 b7 h7 h8 n er D hdays hc
    · rw [if_neg hc]
      exact parse_minus_on s w y mo d h m x s1 s2 s3 s4 s5 s6 b1 b2 b3 b4 b5 b6 h1 h2 h3 h4 h5 h6 hp hm zh zm s7 b7 h7 h8 n er D hdays hc
end Go.Proofs.YtllhbcpbihhdnaaGreatDoor
