/-
  Walks of the package reply: the reference's Print, Same.
-/
import Derived.Test.YtfeedokfcebjjaaDoorRrD
import Derived.Test.YtfeedokfcebjjaaDoorRpLaw
set_option linter.unusedVariables false
set_option linter.unusedSimpArgs false
namespace Go.Proofs.YtfeedokfcebjjaaDoor
open Go.RowKit
set_option maxRecDepth 100000
attribute [local go_sem] equal3
theorem cells6 {w W : World} {code a b c : Int} {A : Option Addr} {n cp bb o : Nat} {u : Value} (h : Mine w [(w.heap.size, #[.int .i64 code, .int .i64 a, .int .i64 b, .int .i64 c, .slice A n cp], 25)] W) (hc : w.cell? ⟨bb, o, none⟩ = some u) :
    W.cell? ⟨w.heap.size, 0, none⟩ = some (.int .i64 code) ∧ W.cell? ⟨w.heap.size, 1, none⟩ = some (.int .i64 a) ∧ W.cell? ⟨w.heap.size, 2, none⟩ = some (.int .i64 b) ∧ W.cell? ⟨w.heap.size, 3, none⟩ = some (.int .i64 c) ∧ W.cell? ⟨w.heap.size, 4, none⟩ = some (.slice A n cp) ∧ W.cell? ⟨bb, o, none⟩ = some u :=
  ⟨h.at 0 _ rfl, h.at 1 _ rfl, h.at 2 _ rfl, h.at 3 _ rfl, h.at 4 _ rfl, cell_next h.low hc⟩
set_option maxHeartbeats 4000000 in
theorem rprint_bad (code a b c : Int) (A : Option Addr) (m cp : Nat) (t : List ByteArray) (hm : t.length = m) (w : World) (hS : Strs w A t) (hs : ∀ s ∈ t, s.size ≤ 1000000) (ht : m ≤ 1000000) (r : Int) (hr : Rp.right code a b c t = r) (hr0 : r ≠ 0) :
    Calls Tryd.prog 13 #[.agg #[.int .i64 code, .int .i64 a, .int .i64 b, .int .i64 c, .slice A m cp]] w fun e w' => e = .returned (.tuple #[.slice none 0 0, .int .i64 r]) ∧ Below w.heap.size w w' := by
  have M : Aside (Mine w [(w.heap.size, #[.int .i64 code, .int .i64 a, .int .i64 b, .int .i64 c, .slice A m cp], 25)] (w.alloc (.cells #[.int .i64 code, .int .i64 a, .int .i64 b, .int .i64 c, .slice A m cp] 25))) := ⟨(Mine.start w).alloc _ _⟩
  have hR := fun W hW => rright_any code a b c A m cp t hm W hW hs ht
  rw [hr] at hR
  have e0 : (r == 0) = false := by simpa using hr0
  have e1 : (r != 0) = true := by simpa using hr0
  have HS := Aside.mk hS
  clear hS hs
  go_enter Tryd.func13, Tryd.ntmps13
  go_wp2_with ((go_at_call 18; (with_reducible refine (hR _ (HS.out.next M.out.low)).mono ?_); rintro e w1 ⟨rfl, hb⟩; replace M := Aside.mk (M.out.next hb); clear hb))
  go_ret2
  exact ⟨rfl, M.out.low⟩
set_option maxHeartbeats 8000000 in
theorem rprint_ok (code a b c : Int) (A : Option Addr) (m cp : Nat) (t : List ByteArray) (hm : t.length = m) (w : World) (hS : Strs w A t) (hs : ∀ s ∈ t, s.size ≤ 1000000) (ht : m ≤ 1000000) (hr : Rp.right code a b c t = 0) :
    Calls Tryd.prog 13 #[.agg #[.int .i64 code, .int .i64 a, .int .i64 b, .int .i64 c, .slice A m cp]] w fun e w' => ∃ A' cp', e = .returned (.tuple #[.slice A' m cp', .int .i64 0]) ∧ Strs w' A' (Rp.prn code a b c t) ∧ Below w.heap.size w w' := by
  have M : Aside (Mine w [(w.heap.size, #[.int .i64 code, .int .i64 a, .int .i64 b, .int .i64 c, .slice A m cp], 25)] (w.alloc (.cells #[.int .i64 code, .int .i64 a, .int .i64 b, .int .i64 c, .slice A m cp] 25))) := ⟨(Mine.start w).alloc _ _⟩
  have hR := fun W hW => rright_any code a b c A m cp t hm W hW hs ht
  rw [hr] at hR
  have hO := Rp.ok_of_right hr
  have hn := hO.len0
  have code0 := hO.code0
  have code1 := hO.code1
  obtain ⟨a0, a1, b0, b1, c0, c1⟩ := fits_low hO.cls hO.fits
  clear hO hr
  have henh := fun W => word_any a b c W a0 (by omega) b0 (by omega) c0 (by omega)
  have hito := fun W => digits_any code (by omega) (by omega) W
  have lcode := Lib.itoa_length_le code (by omega) (by omega)
  have lenh : (Rp.enh a b c).length ≤ 66 := by
    have la := Lib.itoa_length_le a (by omega) (by omega)
    have lb := Lib.itoa_length_le b (by omega) (by omega)
    have lc := Lib.itoa_length_le c (by omega) (by omega)
    unfold Rp.enh; split <;> simp <;> omega
  clear a0 a1 b0 b1 c0 c1 code0 code1
  have HS := Aside.mk hS
  have Hs := Aside.mk hs
  clear hS hs
  go_enter Tryd.func13, Tryd.ntmps13
  go_wp2_with ((go_at_call 18; (with_reducible refine (hR _ (HS.out.next M.out.low)).mono ?_); rintro e w1 ⟨rfl, hb⟩; replace M := Aside.mk (M.out.next hb); clear hb; (try clear z0); (try clear z1); (try clear z2); (try clear z3); (try clear z4); (try clear zl); have z0 := Mine.at M.out 0 _ rfl; have z1 := Mine.at M.out 1 _ rfl; have z2 := Mine.at M.out 2 _ rfl; have z3 := Mine.at M.out 3 _ rfl; have z4 := Mine.at M.out 4 _ rfl; have zl := Mine.lt M.out))
  go_loopw [5, 6] (fun v i wr => ∃ k : Nat, k ≤ m ∧ i = .int .i64 k ∧ Row wr w.heap.size v ((Rp.prn code a b c t).take k) ∧ Mine w [(w.heap.size, #[.int .i64 code, .int .i64 a, .int .i64 b, .int .i64 c, .slice A m cp], 25)] wr) (fun _ i _ => m - (intOf i).toNat)
  case atStart => exact ⟨0, by omega, rfl, Row.nil _ _, M.out⟩
  case round =>
    clear M
    (try clear z0); (try clear z1); (try clear z2); (try clear z3); (try clear z4); (try clear zl)
    obtain ⟨k, hk, rfl, hrow, hmine⟩ := hrel
    have R := Aside.mk hrow
    have M := Aside.mk hmine
    clear hrow hmine
    (try clear z0); (try clear z1); (try clear z2); (try clear z3); (try clear z4); (try clear zl); have z0 := Mine.at M.out 0 _ rfl; have z1 := Mine.at M.out 1 _ rfl; have z2 := Mine.at M.out 2 _ rfl; have z3 := Mine.at M.out 3 _ rfl; have z4 := Mine.at M.out 4 _ rfl; have zl := Mine.lt M.out
    by_cases hlt : k < m
    · obtain ⟨bb, oo, rfl, hbl, hcell⟩ := HS.out.at k (by omega)
      have hsz := Hs.out t[k] (List.getElem_mem _)
      have HT := Lib.hid (Rp.prn_take code a b c t k (by omega))
      have hlen : ((Rp.prn code a b c t).take k).length = k := by rw [List.length_take, Rp.prn_length]; omega
      have HLen := Lib.hid hlen
      clear hlen
      generalize t[k] = s at hcell hsz HT
      have HC := Aside.mk hcell
      clear hcell
      have hi1 : (0 : Int) ≤ (k : Int) := by omega
      have hi2 : (k : Int) < (m : Int) := by omega
      have hA1 : ¬ 9223372036854775807 < (Lib.itoa code).length + 1 := by omega
      have hA2 : ¬ 9223372036854775807 < (Lib.itoa code).length + 1 + (Rp.enh a b c).length := by omega
      have hA3 : ¬ 9223372036854775807 < (Lib.itoa code).length + 1 + (Rp.enh a b c).length + s.size := by omega
      by_cases hlast : k + 1 = m
      · have hkb : ((k : Int) == (m : Int) - 1) = true := by simp; omega
        have HL := Lib.hid hlast
        go_wp2
        replace M := Aside.mk M.out.drew1
        replace R := Aside.mk R.out.drew1
        (try clear z0); (try clear z1); (try clear z2); (try clear z3); (try clear z4); (try clear zl)
        go_region_held3 (fun w' => w'.cell? ⟨w.heap.size, 0, none⟩ = some (.int .i64 code) ∧ w'.cell? ⟨w.heap.size, 1, none⟩ = some (.int .i64 a) ∧ w'.cell? ⟨w.heap.size, 2, none⟩ = some (.int .i64 b) ∧ w'.cell? ⟨w.heap.size, 3, none⟩ = some (.int .i64 c) ∧ w'.cell? ⟨w.heap.size, 4, none⟩ = some (.slice (some ⟨bb, oo, none⟩) m cp) ∧ w'.cell? ⟨bb, oo + k, none⟩ = some (.string s))
          (first | exact cells6 M.out HC.out | exact cells6 (M.out.allocO _) HC.out)
          (first | (go_at_call 33; (with_reducible refine (hito _).mono ?_); rintro e w2 ⟨rfl, hb⟩; replace M := Aside.mk (M.out.next hb); replace R := Aside.mk (R.out.next hb); clear hb) | (go_at_call 34; (with_reducible refine (henh _).mono ?_); rintro e w2 ⟨rfl, hb⟩; replace M := Aside.mk (M.out.next hb); replace R := Aside.mk (R.out.next hb); clear hb) | (refine app_step rfl _ _ rfl w.heap.size _ _ (by rfl) (R.out.alloc _) _ (by rfl) _ (heap_alloc_new _ _) (by rw [HLen.out]; omega) ((M.out.allocO _).low.size) ?_; intro g cap w4 hrow4 hgrow4 _ _; replace M := Aside.mk ((M.out.allocO _).app (R.out.alloc _) hgrow4 (by simp)); clear R; have R6 := Aside.mk hrow4; clear hrow4 hgrow4))
        all_goals
          go_wp2
          go_roundw
          case rel => exact ⟨k + 1, by omega, by go_num, by rw [HT.out, ← Rp.line_eq code a b c t.length k s 32 (if_pos (by rw [hm]; exact HL.out))]; simpa using R6.out, M.out⟩
          case measure => simp [intOf]; omega
      · have hkb : ((k : Int) == (m : Int) - 1) = false := by simp; omega
        have HL := Lib.hid hlast
        go_wp2
        replace M := Aside.mk M.out.drew1
        replace R := Aside.mk R.out.drew1
        (try clear z0); (try clear z1); (try clear z2); (try clear z3); (try clear z4); (try clear zl)
        go_region_held3 (fun w' => w'.cell? ⟨w.heap.size, 0, none⟩ = some (.int .i64 code) ∧ w'.cell? ⟨w.heap.size, 1, none⟩ = some (.int .i64 a) ∧ w'.cell? ⟨w.heap.size, 2, none⟩ = some (.int .i64 b) ∧ w'.cell? ⟨w.heap.size, 3, none⟩ = some (.int .i64 c) ∧ w'.cell? ⟨w.heap.size, 4, none⟩ = some (.slice (some ⟨bb, oo, none⟩) m cp) ∧ w'.cell? ⟨bb, oo + k, none⟩ = some (.string s))
          (first | exact cells6 M.out HC.out | exact cells6 (M.out.allocO _) HC.out)
          (first | (go_at_call 33; (with_reducible refine (hito _).mono ?_); rintro e w2 ⟨rfl, hb⟩; replace M := Aside.mk (M.out.next hb); replace R := Aside.mk (R.out.next hb); clear hb) | (go_at_call 34; (with_reducible refine (henh _).mono ?_); rintro e w2 ⟨rfl, hb⟩; replace M := Aside.mk (M.out.next hb); replace R := Aside.mk (R.out.next hb); clear hb) | (refine app_step rfl _ _ rfl w.heap.size _ _ (by rfl) (R.out.alloc _) _ (by rfl) _ (heap_alloc_new _ _) (by rw [HLen.out]; omega) ((M.out.allocO _).low.size) ?_; intro g cap w4 hrow4 hgrow4 _ _; replace M := Aside.mk ((M.out.allocO _).app (R.out.alloc _) hgrow4 (by simp)); clear R; have R6 := Aside.mk hrow4; clear hrow4 hgrow4))
        all_goals
          go_wp2
          go_roundw
          case rel => exact ⟨k + 1, by omega, by go_num, by rw [HT.out, ← Rp.line_eq code a b c t.length k s 45 (if_neg (by rw [hm]; exact HL.out))]; simpa using R6.out, M.out⟩
          case measure => simp [intOf]; omega
    · have hke : m = k := by omega
      subst hke
      go_wp2
      go_ret2
      have R2 := R.out
      rw [List.take_of_length_le (by rw [Rp.prn_length]; omega)] at R2
      obtain ⟨A', c', rfl, hs'⟩ := R2.form
      exact ⟨A', c', by rw [Rp.prn_length, hm]; rfl, hs', M.out.low⟩
set_option maxHeartbeats 4000000 in
theorem rsame_s (code a b c : Int) (A A' : Option Addr) (m cp cp' : Nat) (xs : List ByteArray) (hm : xs.length = m) (w : World) (hx : Strs w A xs) (hy : Strs w A' xs) (lx : m ≤ 1000000) :
    Calls Tryd.prog 15 #[.agg #[.int .i64 code, .int .i64 a, .int .i64 b, .int .i64 c, .slice A m cp], .agg #[.int .i64 code, .int .i64 a, .int .i64 b, .int .i64 c, .slice A' m cp']] w fun e w' => e = .returned (.bool true) ∧ Below w.heap.size w w' := by
  have M : Aside (Mine w [(w.heap.size + 1, #[.int .i64 code, .int .i64 a, .int .i64 b, .int .i64 c, .slice A' m cp'], 25), (w.heap.size, #[.int .i64 code, .int .i64 a, .int .i64 b, .int .i64 c, .slice A m cp], 25)] ((w.alloc (.cells #[.int .i64 code, .int .i64 a, .int .i64 b, .int .i64 c, .slice A m cp] 25)).alloc (.cells #[.int .i64 code, .int .i64 a, .int .i64 b, .int .i64 c, .slice A' m cp'] 25))) := ⟨by have := ((Mine.start w).alloc #[.int .i64 code, .int .i64 a, .int .i64 b, .int .i64 c, .slice A m cp] 25).alloc #[.int .i64 code, .int .i64 a, .int .i64 b, .int .i64 c, .slice A' m cp'] 25; simpa using this⟩
  have heq := fun W hX hY => refSame_any A A' cp cp' xs xs W hX hY (by omega) (by omega)
  rw [hm, decide_eq_true rfl] at heq
  have h2 : same3 a b c a b c = true := by simp [same3]
  have HX := Aside.mk hx
  have HY := Aside.mk hy
  clear hx hy
  go_enter Tryd.func15, Tryd.ntmps15
  go_wp2_with (go_at_call 16; (with_reducible refine (heq _ (HX.out.next M.out.low) (HY.out.next M.out.low)).mono ?_); rintro e w1 ⟨rfl, hb⟩; replace M := Aside.mk (M.out.next hb); clear hb)
  go_ret
  exact ⟨rfl, M.out.low⟩
end Go.Proofs.YtfeedokfcebjjaaDoor
