/-
  Walks of the package reply: Print.
-/
import Derived.Test.YtfeedokfcebjjaaDoorRpRight
import Derived.Test.YtfeedokfcebjjaaDoorApp2
import Derived.Deep.RegionHeld3
import Derived.Outline
set_option linter.unusedVariables false
set_option linter.unusedSimpArgs false
namespace Go.Proofs.YtfeedokfcebjjaaDoor
open Go.RowKit
set_option maxRecDepth 100000
attribute [local go_sem] equal3
/-- A line of a reply: k of n. -/
def Rp.line (code a b c : Int) (n k : Nat) (s : ByteArray) : ByteArray := ⟨(Lib.itoa code ++ [if k + 1 = n then 32 else 45] ++ Rp.enh a b c ++ s.data.toList).toArray⟩
/-- A reply's lines. -/
def Rp.prn (code a b c : Int) (t : List ByteArray) : List ByteArray := t.mapIdx (Rp.line code a b c t.length)
theorem Rp.line_eq (code a b c : Int) (n k : Nat) (s : ByteArray) (x : UInt8) (h : (if k + 1 = n then (32 : UInt8) else 45) = x) : ((⟨(Lib.itoa code).toArray⟩ : ByteArray) ++ (⟨#[x]⟩ : ByteArray) ++ (⟨(Rp.enh a b c).toArray⟩ : ByteArray) ++ s) = Rp.line code a b c n k s :=
  ByteArray.ext (by simp [Rp.line, h])
theorem Rp.prn_length (code a b c : Int) (t : List ByteArray) : (Rp.prn code a b c t).length = t.length := by simp [Rp.prn]
theorem Rp.prn_get (code a b c : Int) (t : List ByteArray) (k : Nat) (h : k < (Rp.prn code a b c t).length) : (Rp.prn code a b c t)[k] = Rp.line code a b c t.length k (t[k]'(by rw [Rp.prn_length] at h; exact h)) := by simp [Rp.prn]
theorem Rp.prn_take (code a b c : Int) (t : List ByteArray) (k : Nat) (h : k < t.length) : (Rp.prn code a b c t).take (k + 1) = (Rp.prn code a b c t).take k ++ [Rp.line code a b c t.length k t[k]] := by
  rw [List.take_succ_eq_append_getElem (by rw [Rp.prn_length]; exact h), Rp.prn_get]
theorem cells5 {w W : World} {code a b c : Int} {A : Option Addr} {n cp : Nat} (h : Mine w [(w.heap.size, #[.int .i64 code, .int .i64 a, .int .i64 b, .int .i64 c, .slice A n cp], 25)] W) :
    W.cell? ⟨w.heap.size, 0, none⟩ = some (.int .i64 code) ∧ W.cell? ⟨w.heap.size, 1, none⟩ = some (.int .i64 a) ∧ W.cell? ⟨w.heap.size, 2, none⟩ = some (.int .i64 b) ∧ W.cell? ⟨w.heap.size, 3, none⟩ = some (.int .i64 c) ∧ W.cell? ⟨w.heap.size, 4, none⟩ = some (.slice A n cp) :=
  ⟨h.at 0 _ rfl, h.at 1 _ rfl, h.at 2 _ rfl, h.at 3 _ rfl, h.at 4 _ rfl⟩
theorem Mine.drew1 {w : World} {L : List (Nat × Array Value × TypeId)} {W : World} (h : Mine w L W) : Mine w L W.drew := h.drewN 1
theorem Row.drew1 {w : World} {base : Nat} {v : Value} {xs : List ByteArray} (h : Row w base v xs) : Row w.drew base v xs := h.drewN 1
set_option maxHeartbeats 4000000 in
theorem print_bad (code a b c : Int) (A : Option Addr) (cp : Nat) (t : List ByteArray) (w : World) (hE : Env w) (hS : Strs w A t) (hs : ∀ s ∈ t, s.size ≤ 140737488351232) (ht : t.length ≤ 140737488351232) (a0 : -9223372036854775808 ≤ a) (a1 : a ≤ 9223372036854775807) (b0 : -9223372036854775808 ≤ b) (b1 : b ≤ 9223372036854775807) (c0 : -9223372036854775808 ≤ c) (c1 : c ≤ 9223372036854775807) (hr : Rp.right code a b c t ≠ 0) :
    Calls Tryd.prog 12 #[.agg #[.int .i64 code, .int .i64 a, .int .i64 b, .int .i64 c, .slice A t.length cp]] w fun e w' => e = .returned (.tuple #[.slice none 0 0, .int .i64 (Rp.right code a b c t)]) ∧ Below w.heap.size w w' := by
  have M : Aside (Mine w [(w.heap.size, #[.int .i64 code, .int .i64 a, .int .i64 b, .int .i64 c, .slice A t.length cp], 25)] (w.alloc (.cells #[.int .i64 code, .int .i64 a, .int .i64 b, .int .i64 c, .slice A t.length cp] 25))) := ⟨(Mine.start w).alloc _ _⟩
  have hR := fun W hW hZ => right_any code a b c A cp t W hW hZ hs ht a0 a1 b0 b1 c0 c1
  clear hs ht
  generalize Rp.right code a b c t = r at hR hr
  have e0 : ((r : Int) == 0) = false := by simpa using hr
  have HS := Aside.mk hS
  clear hS
  go_enter Tryd.func12, Tryd.ntmps12
  go_wp2_with ((go_at_call 17; (with_reducible refine (hR _ (hE.next M.out.low) (HS.out.next M.out.low)).mono ?_); rintro e w1 ⟨rfl, hb⟩; replace M := Aside.mk (M.out.next hb); clear hb))
  go_ret2
  exact ⟨rfl, M.out.low⟩
set_option maxHeartbeats 8000000 in
theorem print_ok (code a b c : Int) (A : Option Addr) (cp : Nat) (t : List ByteArray) (w : World) (hE : Env w) (hS : Strs w A t) (hs : ∀ s ∈ t, s.size ≤ 1000000) (ht : t.length ≤ 1000000) (hn : 1 ≤ t.length) (code0 : -9223372036854775808 ≤ code) (code1 : code ≤ 9223372036854775807) (a0 : -9223372036854775808 ≤ a) (a1 : a ≤ 9223372036854775807) (b0 : -9223372036854775808 ≤ b) (b1 : b ≤ 9223372036854775807) (c0 : -9223372036854775808 ≤ c) (c1 : c ≤ 9223372036854775807) (hr : Rp.right code a b c t = 0) :
    Calls Tryd.prog 12 #[.agg #[.int .i64 code, .int .i64 a, .int .i64 b, .int .i64 c, .slice A t.length cp]] w fun e w' => ∃ v, e = .returned (.tuple #[v, .int .i64 0]) ∧ Row w' w.heap.size v (Rp.prn code a b c t) ∧ Below w.heap.size w w' := by
  have M : Aside (Mine w [(w.heap.size, #[.int .i64 code, .int .i64 a, .int .i64 b, .int .i64 c, .slice A t.length cp], 25)] (w.alloc (.cells #[.int .i64 code, .int .i64 a, .int .i64 b, .int .i64 c, .slice A t.length cp] 25))) := ⟨(Mine.start w).alloc _ _⟩
  have hR := fun W hW hZ => right_any code a b c A cp t W hW hZ (fun s h => Nat.le_trans (hs s h) (by decide)) (by omega) a0 a1 b0 b1 c0 c1
  rw [hr] at hR
  clear hr
  have henh := fun W hW => enh_any a b c W hW a0 a1 b0 b1 c0 c1
  have hito := fun W hW => itoa_any code W code0 code1 hW
  have lcode := Lib.itoa_length_le code code0 code1
  have lenh : (Rp.enh a b c).length ≤ 66 := by
    have la := Lib.itoa_length_le a a0 a1
    have lb := Lib.itoa_length_le b b0 b1
    have lc := Lib.itoa_length_le c c0 c1
    unfold Rp.enh; split <;> simp <;> omega
  clear a0 a1 b0 b1 c0 c1 code0 code1
  have HS := Aside.mk hS
  have Hs := Aside.mk hs
  clear hS hs
  go_enter Tryd.func12, Tryd.ntmps12
  go_wp2_with ((go_at_call 17; (with_reducible refine (hR _ (hE.next M.out.low) (HS.out.next M.out.low)).mono ?_); rintro e w1 ⟨rfl, hb⟩; replace M := Aside.mk (M.out.next hb); clear hb; (try clear z0); (try clear z1); (try clear z2); (try clear z3); (try clear z4); (try clear zl); have z0 := Mine.at M.out 0 _ rfl; have z1 := Mine.at M.out 1 _ rfl; have z2 := Mine.at M.out 2 _ rfl; have z3 := Mine.at M.out 3 _ rfl; have z4 := Mine.at M.out 4 _ rfl; have zl := Mine.lt M.out))
  go_loopw [5, 17] (fun v i wr => ∃ k : Nat, k ≤ t.length ∧ i = .int .i64 k ∧ Row wr w.heap.size v ((Rp.prn code a b c t).take k) ∧ Mine w [(w.heap.size, #[.int .i64 code, .int .i64 a, .int .i64 b, .int .i64 c, .slice A t.length cp], 25)] wr) (fun _ i _ => t.length - (intOf i).toNat)
  case atStart => exact ⟨0, by omega, rfl, Row.nil _ _, M.out⟩
  case round =>
    clear M
    (try clear z0); (try clear z1); (try clear z2); (try clear z3); (try clear z4); (try clear zl)
    obtain ⟨k, hk, rfl, hrow, hmine⟩ := hrel
    have R := Aside.mk hrow
    have M := Aside.mk hmine
    clear hrow hmine
    (try clear z0); (try clear z1); (try clear z2); (try clear z3); (try clear z4); (try clear zl); have z0 := Mine.at M.out 0 _ rfl; have z1 := Mine.at M.out 1 _ rfl; have z2 := Mine.at M.out 2 _ rfl; have z3 := Mine.at M.out 3 _ rfl; have z4 := Mine.at M.out 4 _ rfl; have zl := Mine.lt M.out
    by_cases hlt : k < t.length
    · obtain ⟨bb, oo, rfl, hbl, hcell⟩ := (HS.out.next M.out.low).at k hlt
      have hsz := Hs.out t[k] (List.getElem_mem _)
      have HT := Lib.hid (Rp.prn_take code a b c t k hlt)
      generalize t[k] = s at hcell hsz HT
      have hA1 : ¬ 9223372036854775807 < (Lib.itoa code).length + 1 := by omega
      have hA2 : ¬ 9223372036854775807 < (Lib.itoa code).length + 1 + (Rp.enh a b c).length := by omega
      have hA3 : ¬ 9223372036854775807 < (Lib.itoa code).length + 1 + (Rp.enh a b c).length + s.size := by omega
      by_cases hlast : k + 1 = t.length
      · have hkb : ((k : Int) == (t.length : Int) - 1) = true := by simp; omega
        have HL := Lib.hid hlast
        go_wp2
        replace M := Aside.mk M.out.drew1
        replace R := Aside.mk R.out.drew1
        (try clear z0); (try clear z1); (try clear z2); (try clear z3); (try clear z4); (try clear zl)
        go_region_held3 (fun w' => w'.cell? ⟨w.heap.size, 0, none⟩ = some (.int .i64 code) ∧ w'.cell? ⟨w.heap.size, 1, none⟩ = some (.int .i64 a) ∧ w'.cell? ⟨w.heap.size, 2, none⟩ = some (.int .i64 b) ∧ w'.cell? ⟨w.heap.size, 3, none⟩ = some (.int .i64 c) ∧ w'.cell? ⟨w.heap.size, 4, none⟩ = some (.slice (some ⟨bb, oo, none⟩) t.length cp))
          (first | exact cells5 M.out | exact cells5 (M.out.allocO _))
          (first | (go_at_call 31; (with_reducible refine (hito _ (hE.next M.out.low)).mono ?_); rintro e w2 ⟨rfl, hb⟩; replace M := Aside.mk (M.out.next hb); replace R := Aside.mk (R.out.next hb); clear hb) | (go_at_call 32; (with_reducible refine (henh _ (hE.next M.out.low)).mono ?_); rintro e w2 ⟨rfl, hb⟩; replace M := Aside.mk (M.out.next hb); replace R := Aside.mk (R.out.next hb); clear hb) | (refine app_step rfl _ _ rfl w.heap.size _ _ (by rfl) (R.out.alloc _) _ (by rfl) _ (heap_alloc_new _ _) (by simp; omega) ((M.out.allocO _).low.size) ?_; intro g cap w4 hrow4 hgrow4 _ _; replace M := Aside.mk ((M.out.allocO _).app (R.out.alloc _) hgrow4 (by simp)); clear R; have R6 := Aside.mk hrow4; clear hrow4 hgrow4))
        all_goals
          go_wp2
          go_roundw
          case rel => exact ⟨k + 1, by omega, by go_num, by rw [HT.out, ← Rp.line_eq code a b c t.length k s 32 (if_pos HL.out)]; simpa using R6.out, M.out⟩
          case measure => simp [intOf]; omega
      · have hkb : ((k : Int) == (t.length : Int) - 1) = false := by simp; omega
        have HL := Lib.hid hlast
        go_wp2
        replace M := Aside.mk M.out.drew1
        replace R := Aside.mk R.out.drew1
        (try clear z0); (try clear z1); (try clear z2); (try clear z3); (try clear z4); (try clear zl)
        go_region_held3 (fun w' => w'.cell? ⟨w.heap.size, 0, none⟩ = some (.int .i64 code) ∧ w'.cell? ⟨w.heap.size, 1, none⟩ = some (.int .i64 a) ∧ w'.cell? ⟨w.heap.size, 2, none⟩ = some (.int .i64 b) ∧ w'.cell? ⟨w.heap.size, 3, none⟩ = some (.int .i64 c) ∧ w'.cell? ⟨w.heap.size, 4, none⟩ = some (.slice (some ⟨bb, oo, none⟩) t.length cp))
          (first | exact cells5 M.out | exact cells5 (M.out.allocO _))
          (first | (go_at_call 31; (with_reducible refine (hito _ (hE.next M.out.low)).mono ?_); rintro e w2 ⟨rfl, hb⟩; replace M := Aside.mk (M.out.next hb); replace R := Aside.mk (R.out.next hb); clear hb) | (go_at_call 32; (with_reducible refine (henh _ (hE.next M.out.low)).mono ?_); rintro e w2 ⟨rfl, hb⟩; replace M := Aside.mk (M.out.next hb); replace R := Aside.mk (R.out.next hb); clear hb) | (refine app_step rfl _ _ rfl w.heap.size _ _ (by rfl) (R.out.alloc _) _ (by rfl) _ (heap_alloc_new _ _) (by simp; omega) ((M.out.allocO _).low.size) ?_; intro g cap w4 hrow4 hgrow4 _ _; replace M := Aside.mk ((M.out.allocO _).app (R.out.alloc _) hgrow4 (by simp)); clear R; have R6 := Aside.mk hrow4; clear hrow4 hgrow4))
        all_goals
          go_wp2
          go_roundw
          case rel => exact ⟨k + 1, by omega, by go_num, by rw [HT.out, ← Rp.line_eq code a b c t.length k s 45 (if_neg HL.out)]; simpa using R6.out, M.out⟩
          case measure => simp [intOf]; omega
    · have hke : k = t.length := by omega
      subst hke
      go_wp2
      go_ret2
      exact ⟨_, rfl, by have := R.out; rw [List.take_of_length_le (by rw [Rp.prn_length]; omega)] at this; exact this, M.out.low⟩
end Go.Proofs.YtfeedokfcebjjaaDoor
