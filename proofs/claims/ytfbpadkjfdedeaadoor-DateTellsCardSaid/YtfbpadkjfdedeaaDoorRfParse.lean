/-
  Lemmas on the way to DateTells (RfParse): the reference's Parse of any text.
-/
import Derived.Test.YtfbpadkjfdedeaaDoorRfPar0
import Derived.Test.YtfbpadkjfdedeaaDoorRfParP
import Derived.Test.YtfbpadkjfdedeaaDoorRfParM
set_option linter.unusedVariables false
set_option linter.unusedSimpArgs false
namespace DtCal
theorem hd_len (a b c d e f g h i j k l m n : UInt8) (z : List UInt8) : (hd a b c d e f g h i j k l m n z).length = 19 + z.length := by simp [hd]; omega
theorem not_both {s a b : List UInt8} (h : shp s a = true) (hl : a.length ≠ b.length) : shp s b = false := by
  cases hx : shp s b with
  | false => rfl
  | true => exact absurd ((shp_len s a h).symm.trans (shp_len s b hx)) hl
theorem P_not_M {s : List UInt8} (h : shp s patP = true) : shp s patM = false := by
  cases hx : shp s patM with
  | false => rfl
  | true =>
    have l1 := shp_len _ _ h
    have l2 := shp_len _ _ hx
    have h1 := (shp_all _ _ l1).1 h 19 (by rw [l1]; decide)
    have h2 := (shp_all _ _ l2).1 hx 19 (by rw [l1]; decide)
    rw [show patP[19] = 43 from rfl] at h1
    rw [show patM[19] = 45 from rfl] at h2
    rw [okc1 _ _ (by decide)] at h1 h2
    rw [h1] at h2
    exact absurd h2 (by decide)
end DtCal
namespace Go.Proofs.YtfbpadkjfdedeaaDoor
open Go.RowKit
set_option maxRecDepth 100000
set_option maxHeartbeats 2000000 in
theorem rf_parse_none (s : ByteArray) (w : World) (S0 : ∀ W, Calls Tryd.prog 28 #[.string s, .string ⟨#[48, 48, 48, 48, 45, 48, 48, 45, 48, 48, 84, 48, 48, 58, 48, 48, 58, 48, 48, 90]⟩] W fun e w' => e = .returned (.bool false) ∧ Below W.heap.size W w') (SP : ∀ W, Calls Tryd.prog 28 #[.string s, .string ⟨#[48, 48, 48, 48, 45, 48, 48, 45, 48, 48, 84, 48, 48, 58, 48, 48, 58, 48, 48, 43, 48, 48, 58, 48, 48]⟩] W fun e w' => e = .returned (.bool false) ∧ Below W.heap.size W w') (SM : ∀ W, Calls Tryd.prog 28 #[.string s, .string ⟨#[48, 48, 48, 48, 45, 48, 48, 45, 48, 48, 84, 48, 48, 58, 48, 48, 58, 48, 48, 45, 48, 48, 58, 48, 48]⟩] W fun e w' => e = .returned (.bool false) ∧ Below W.heap.size W w') :
    Calls Tryd.prog 14 #[.string s] w fun e w' => e = .returned (.tuple #[.int .i64 0, .int .i64 2]) ∧ Below w.heap.size w w' := by
  go_enter Tryd.func14, Tryd.ntmps14
  have hbw : Below w.heap.size w w := Below.refl _ _
  go_wp2_with (first | (go_at_call 28; (with_reducible refine (S0 _).mono ?_); rintro e w1 ⟨rfl, hb1⟩; have hbw := Below.next hbw hb1 (Nat.le_refl _)) | (go_at_call 28; (with_reducible refine (SP _).mono ?_); rintro e w1 ⟨rfl, hb1⟩; have hbw := Below.next hbw hb1 (Nat.le_refl _)) | (go_at_call 28; (with_reducible refine (SM _).mono ?_); rintro e w1 ⟨rfl, hb1⟩; have hbw := Below.next hbw hb1 (Nat.le_refl _)))
  go_ret2
  exact ⟨rfl, hbw⟩
theorem num_at (s : ByteArray) (i j : Nat) (l : List UInt8) (hl : (s.data.toList.drop i).take (j - i) = l) (hn : l.length ≤ 4) (hd : l.all DtCal.digit = true) (W : World) :
    Calls Tryd.prog 29 #[.string (s.extract i j)] W fun e w' => e = .returned (.int .i64 (DtCal.dec l)) ∧ w' = W := by
  have he : (s.extract i j).data.toList = l := by
    rw [← hl, ByteArray.data_extract, Array.toList_extract, List.extract_eq_take_drop]
  have hsz : (s.extract i j).size ≤ 4 := by
    rw [← he] at hn
    simp at hn ⊢; omega
  have := rf_number (s.extract i j) W hsz (by rw [he]; exact hd)
  rwa [he] at this
theorem shape_at (s : ByteArray) (hs : s.size ≤ 140737488351232) (p : Array UInt8) (hp : p.size ≤ 100) (b : Bool) (hb : DtCal.shp s.data.toList p.toList = b) (W : World) :
    Calls Tryd.prog 28 #[.string s, .string ⟨p⟩] W fun e w' => e = .returned (.bool b) ∧ Below W.heap.size W w' := by
  subst hb
  exact rf_shape s ⟨p⟩ W hs (by show p.size ≤ _; omega)
theorem rf_parse_any (s : ByteArray) (hs : s.size ≤ 140737488351232) (w : World) :
    Calls Tryd.prog 14 #[.string s] w fun e w' => e = .returned (.tuple #[.int .i64 (DtCal.parse s.data.toList).1, .int .i64 (DtCal.parse s.data.toList).2]) ∧ Below w.heap.size w w' := by
  have S := fun p hp b hb W => shape_at s hs p hp b hb W
  have hsz : s.data.toList.length = s.size := by simp
  by_cases h0 : DtCal.shp s.data.toList DtCal.pat0 = true
  · have hP := DtCal.not_both (b := DtCal.patP) h0 (by decide)
    have hM := DtCal.not_both (b := DtCal.patM) h0 (by decide)
    have l0 := DtCal.shp_len _ _ h0
    obtain ⟨a, b, c, d, e, f, g, h, i, j, k, l, m, n, t, hl, ht, d1, d2, d3, d4, d5, d6⟩ := DtCal.shp_hd (z := [90]) h0
    obtain ⟨_, _, rfl, ht1, ht2⟩ := (DtCal.shp_cons _ _ _).1 ht
    obtain rfl := (DtCal.shp_nil _).1 ht2
    obtain rfl := (DtCal.okc1 _ 90 (by decide)).1 ht1
    have e0 := DtCal.parse_hd (z := [90]) d1 d2 d3 d4 d5 d6
    rw [DtCal.zone_z] at e0
    have s1 := DtCal.dec_small4 d1
    have s2 := DtCal.dec_small2 d2
    have s3 := DtCal.dec_small2 d3
    have s4 := DtCal.dec_small2 d4
    have s5 := DtCal.dec_small2 d5
    have s6 := DtCal.dec_small2 d6
    have N := fun x y u hu hn hd W => num_at s x y u hu hn hd W
    rw [hl] at N
    rw [hl, e0]
    exact rf_parse_0 s w (by rw [← hsz, l0]; rfl) _ _ _ _ _ _ (S _ (by decide) _ h0) (S _ (by decide) _ hP) (S _ (by decide) _ hM)
      (N 0 4 _ rfl (by simp) d1) s1.1 s1.2 (N 5 7 _ rfl (by simp) d2) s2.1 s2.2 (N 8 10 _ rfl (by simp) d3) s3.1 s3.2 (N 11 13 _ rfl (by simp) d4) s4.1 s4.2 (N 14 16 _ rfl (by simp) d5) s5.1 s5.2 (N 17 19 _ rfl (by simp) d6) s6.1 s6.2
  by_cases hP : DtCal.shp s.data.toList DtCal.patP = true
  · have h0' := DtCal.not_both (b := DtCal.pat0) hP (by decide)
    have hO : DtCal.shp s.data.toList DtCal.patM = false := DtCal.P_not_M hP
    have l0 := DtCal.shp_len _ _ hP
    obtain ⟨a, b, c, d, e, f, g, h, i, j, k, l, m, n, t, hl, ht, d1, d2, d3, d4, d5, d6⟩ := DtCal.shp_hd (z := [43, 48, 48, 58, 48, 48]) hP
    obtain ⟨p, q, r, u, rfl, d7, d8⟩ := DtCal.shp_tail (.inl rfl) ht
    have e0 := DtCal.parse_hd (z := [43, p, q, 58, r, u]) d1 d2 d3 d4 d5 d6
    rw [DtCal.zone_two (.inl rfl) d7 d8] at e0
    have s1 := DtCal.dec_small4 d1
    have s2 := DtCal.dec_small2 d2
    have s3 := DtCal.dec_small2 d3
    have s4 := DtCal.dec_small2 d4
    have s5 := DtCal.dec_small2 d5
    have s6 := DtCal.dec_small2 d6
    have s7 := DtCal.dec_small2 d7
    have s8 := DtCal.dec_small2 d8
    have N := fun x y u hu hn hd W => num_at s x y u hu hn hd W
    rw [hl] at N
    rw [hl, e0]
    exact rf_parse_P s w (by rw [← hsz, l0]; rfl) _ _ _ _ _ _ _ _ (S _ (by decide) _ h0') (S _ (by decide) _ hP) (S _ (by decide) _ hO)
      (N 0 4 _ rfl (by simp) d1) s1.1 s1.2 (N 5 7 _ rfl (by simp) d2) s2.1 s2.2 (N 8 10 _ rfl (by simp) d3) s3.1 s3.2 (N 11 13 _ rfl (by simp) d4) s4.1 s4.2 (N 14 16 _ rfl (by simp) d5) s5.1 s5.2 (N 17 19 _ rfl (by simp) d6) s6.1 s6.2
      (N 20 22 _ rfl (by simp) d7) s7.1 s7.2 (N 23 25 _ rfl (by simp) d8) s8.1 s8.2
  by_cases hM : DtCal.shp s.data.toList DtCal.patM = true
  · have h0' := DtCal.not_both (b := DtCal.pat0) hM (by decide)
    have hO : DtCal.shp s.data.toList DtCal.patP = false := by simpa using hP
    have l0 := DtCal.shp_len _ _ hM
    obtain ⟨a, b, c, d, e, f, g, h, i, j, k, l, m, n, t, hl, ht, d1, d2, d3, d4, d5, d6⟩ := DtCal.shp_hd (z := [45, 48, 48, 58, 48, 48]) hM
    obtain ⟨p, q, r, u, rfl, d7, d8⟩ := DtCal.shp_tail (.inr rfl) ht
    have e0 := DtCal.parse_hd (z := [45, p, q, 58, r, u]) d1 d2 d3 d4 d5 d6
    rw [DtCal.zone_two (.inr rfl) d7 d8] at e0
    have s1 := DtCal.dec_small4 d1
    have s2 := DtCal.dec_small2 d2
    have s3 := DtCal.dec_small2 d3
    have s4 := DtCal.dec_small2 d4
    have s5 := DtCal.dec_small2 d5
    have s6 := DtCal.dec_small2 d6
    have s7 := DtCal.dec_small2 d7
    have s8 := DtCal.dec_small2 d8
    have N := fun x y u hu hn hd W => num_at s x y u hu hn hd W
    rw [hl] at N
    rw [hl, e0]
    exact rf_parse_M s w (by rw [← hsz, l0]; rfl) _ _ _ _ _ _ _ _ (S _ (by decide) _ h0') (S _ (by decide) _ hO) (S _ (by decide) _ hM)
      (N 0 4 _ rfl (by simp) d1) s1.1 s1.2 (N 5 7 _ rfl (by simp) d2) s2.1 s2.2 (N 8 10 _ rfl (by simp) d3) s3.1 s3.2 (N 11 13 _ rfl (by simp) d4) s4.1 s4.2 (N 14 16 _ rfl (by simp) d5) s5.1 s5.2 (N 17 19 _ rfl (by simp) d6) s6.1 s6.2
      (N 20 22 _ rfl (by simp) d7) s7.1 s7.2 (N 23 25 _ rfl (by simp) d8) s8.1 s8.2
  have g0 : DtCal.shp s.data.toList DtCal.pat0 = false := by simpa using h0
  have gP : DtCal.shp s.data.toList DtCal.patP = false := by simpa using hP
  have gM : DtCal.shp s.data.toList DtCal.patM = false := by simpa using hM
  rw [DtCal.parse_unlike g0 gP gM]
  exact rf_parse_none s w (S _ (by decide) _ g0) (S _ (by decide) _ gP) (S _ (by decide) _ gM)
end Go.Proofs.YtfbpadkjfdedeaaDoor
