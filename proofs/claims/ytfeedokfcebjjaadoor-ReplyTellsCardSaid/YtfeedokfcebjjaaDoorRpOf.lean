/-
  Walks of the package reply: Of.
-/
import Derived.Test.YtfeedokfcebjjaaDoorRpReadA
import Derived.Test.YtfeedokfcebjjaaDoorRpRight
import Derived.Test.YtfeedokfcebjjaaDoorApp
import Derived.Test.YtfeedokfcebjjaaDoorRpParse0
import Derived.Outline
set_option linter.unusedVariables false
set_option linter.unusedSimpArgs false
namespace Go.Proofs.YtfeedokfcebjjaaDoor
open Go.RowKit
set_option maxRecDepth 100000
attribute [local go_sem] equal3
theorem low5o {B : Nat} {w W : World} (h : Below B w W) {b : Nat} (hb : B ≤ b) (v0 v1 v2 v3 v4 : Value) : Below B w (((((W.setCell ⟨b, 0, none⟩ v0).setCell ⟨b, 1, none⟩ v1).setCell ⟨b, 2, none⟩ v2).setCell ⟨b, 3, none⟩ v3).setCell ⟨b, 4, none⟩ v4) :=
  ((((h.setCell (p := ⟨b, 0, none⟩) hb v0).setCell (p := ⟨b, 1, none⟩) hb v1).setCell (p := ⟨b, 2, none⟩) hb v2).setCell (p := ⟨b, 3, none⟩) hb v3).setCell (p := ⟨b, 4, none⟩) hb v4
theorem clone_any (A : Option Addr) (cp : Nat) (t : List ByteArray) (w : World) (hS : Strs w A t) (ht : t.length ≤ 1000000) :
    Calls Tryd.prog 38 #[.slice A t.length cp] w fun e w' => ∃ A' cp', e = .returned (.slice A' t.length cp') ∧ Row w' w.heap.size (.slice A' t.length cp') t ∧ Below w.heap.size w w' := by
  by_cases hn : t = []
  · subst hn
    cases A with
    | none => exact (Tryd.slices_Clone_string_nil 0 cp w).mono fun _ _ ⟨h, hw⟩ => ⟨none, 0, h, Row.nil _ _, hw ▸ Below.refl _ _⟩
    | some a =>
      refine (Tryd.slices_Clone_string_zero a cp w).mono ?_
      rintro e w' ⟨v', h, hrow, _, hb⟩
      have hr : Row w' w.heap.size v' [] := hrow
      obtain ⟨A', c', rfl, _⟩ := hr.form
      exact ⟨A', c', h, hr, hb⟩
  · obtain ⟨b, o, rfl, _, hc⟩ := hS hn
    refine (Tryd.slices_Clone_string b o t.length cp t w (Nat.le_refl _) (by omega) (fun j hj => by rw [hc j hj, List.getD_eq_getElem?_getD, List.getElem?_eq_getElem hj]; rfl)).mono ?_
    rintro e w' ⟨v', h, hrow, _, hb⟩
    have hr : Row w' w.heap.size v' t := by rw [List.take_of_length_le (Nat.le_refl _)] at hrow; exact hrow
    obtain ⟨A', c', rfl, _⟩ := hr.form
    exact ⟨A', c', h, hr, hb⟩
set_option maxHeartbeats 4000000 in
theorem of_bad (code : Int) (word : ByteArray) (A : Option Addr) (cp : Nat) (t : List ByteArray) (w : World) (hE : Env w) (hS : Strs w A t) (ht : t.length ≤ 1000000) (hw : (word.toList == []) = false) (hs : word.size ≤ 1000000)
    (hr : Rp.rd code (word ++ (⟨#[32]⟩ : ByteArray)).data.toList = (0, 0, 0, [], false)) :
    Calls Tryd.prog 21 #[.int .i64 code, .string word, .slice A t.length cp] w fun e w' => e = .returned (.tuple #[.agg #[.int .i64 0, .int .i64 0, .int .i64 0, .int .i64 0, .slice none 0 0], .int .i64 2]) ∧ Below w.heap.size w w' := by
  have hcl := fun W hZ => clone_any A cp t W hZ ht
  have hrd := fun W hW => read_any code (word ++ (⟨#[32]⟩ : ByteArray)) W hW (by rw [ByteArray.size_append]; have h1 : (⟨#[32]⟩ : ByteArray).size = 1 := rfl; omega)
  rw [hr] at hrd
  simp only [rdV] at hrd
  clear hr
  have HS := Aside.mk hS
  clear hS
  have M0 : Aside (Mine w [(w.heap.size, #[.int .i64 0, .int .i64 0, .int .i64 0, .int .i64 0, .slice none 0 0], 25)] (w.alloc (.cells #[.int .i64 0, .int .i64 0, .int .i64 0, .int .i64 0, .slice none 0 0] 25))) := ⟨(Mine.start w).alloc _ _⟩
  go_enter Tryd.func21, Tryd.ntmps21
  go_wp2_with (first | (go_at_call 38; (with_reducible refine (hcl _ (HS.out.next M0.out.low)).mono ?_); rintro e w1 ⟨A', c', rfl, hrow, hb⟩; have M1 := M0.out.next hb; have hlt1 := Mine.lt M1; have M := Aside.mk (M1.alloc #[.int .i64 code, .int .i64 0, .int .i64 0, .int .i64 0, .slice A' t.length c'] 25); clear M0 M1 hb hrow; have z0 := Mine.at M.out 0 _ rfl; have z1 := Mine.at M.out 1 _ rfl; have z2 := Mine.at M.out 2 _ rfl; have z3 := Mine.at M.out 3 _ rfl; have z4 := Mine.at M.out 4 _ rfl; have y0 := Mine.free M.out 0; have y1 := Mine.free M.out 1; have y2 := Mine.free M.out 2; have y3 := Mine.free M.out 3; have y4 := Mine.free M.out 4; have zl := Mine.lt M.out; have x0 := Mine.at M.out.drop 0 _ rfl; have x1 := Mine.at M.out.drop 1 _ rfl; have x2 := Mine.at M.out.drop 2 _ rfl; have x3 := Mine.at M.out.drop 3 _ rfl; have x4 := Mine.at M.out.drop 4 _ rfl; have u0 := Mine.free M.out.drop 0; have u1 := Mine.free M.out.drop 1; have u2 := Mine.free M.out.drop 2; have u3 := Mine.free M.out.drop 3; have u4 := Mine.free M.out.drop 4; have xl := Mine.lt M.out.drop) | (go_at_call 39; (with_reducible refine (hrd _ (hE.next M.out.low)).mono ?_); rintro e w2 ⟨rfl, hb⟩; replace M := Aside.mk (M.out.next hb); clear hb; (try clear z0); (try clear z1); (try clear z2); (try clear z3); (try clear z4); (try clear y0); (try clear y1); (try clear y2); (try clear y3); (try clear y4); (try clear zl); (try clear x0); (try clear x1); (try clear x2); (try clear x3); (try clear x4); (try clear u0); (try clear u1); (try clear u2); (try clear u3); (try clear u4); (try clear xl); have z0 := Mine.at M.out 0 _ rfl; have z1 := Mine.at M.out 1 _ rfl; have z2 := Mine.at M.out 2 _ rfl; have z3 := Mine.at M.out 3 _ rfl; have z4 := Mine.at M.out 4 _ rfl; have y0 := Mine.free M.out 0; have y1 := Mine.free M.out 1; have y2 := Mine.free M.out 2; have y3 := Mine.free M.out 3; have y4 := Mine.free M.out 4; have zl := Mine.lt M.out; have x0 := Mine.at M.out.drop 0 _ rfl; have x1 := Mine.at M.out.drop 1 _ rfl; have x2 := Mine.at M.out.drop 2 _ rfl; have x3 := Mine.at M.out.drop 3 _ rfl; have x4 := Mine.at M.out.drop 4 _ rfl; have u0 := Mine.free M.out.drop 0; have u1 := Mine.free M.out.drop 1; have u2 := Mine.free M.out.drop 2; have u3 := Mine.free M.out.drop 3; have u4 := Mine.free M.out.drop 4; have xl := Mine.lt M.out.drop))
  have M6 := Aside.mk ((((((M.out.swap.set (by simp; omega) 0 (.int .i64 0)).set (by simp; omega) 1 (.int .i64 0)).set (by simp; omega) 2 (.int .i64 0)).set (by simp; omega) 3 (.int .i64 0)).set (by simp; omega) 4 (.slice none 0 0)).allocO (.cells #[.int .i64 0, .int .i64 0, .int .i64 0] 23))
  (try clear z0); (try clear z1); (try clear z2); (try clear z3); (try clear z4); (try clear y0); (try clear y1); (try clear y2); (try clear y3); (try clear y4); (try clear zl); (try clear x0); (try clear x1); (try clear x2); (try clear x3); (try clear x4); (try clear u0); (try clear u1); (try clear u2); (try clear u3); (try clear u4); (try clear xl)
  have x0 := Mine.at M6.out 0 _ rfl; have x1 := Mine.at M6.out 1 _ rfl; have x2 := Mine.at M6.out 2 _ rfl; have x3 := Mine.at M6.out 3 _ rfl; have x4 := Mine.at M6.out 4 _ rfl
  refine bodyPost_ret (v := .tuple #[.agg #[.int .i64 0, .int .i64 0, .int .i64 0, .int .i64 0, .slice none 0 0], .int .i64 2]) (by simp [results, Tryd.results21, go_sem, x0, x1, x2, x3, x4]) rfl ⟨rfl, M6.out.low⟩
set_option maxHeartbeats 4000000 in
theorem of_ok (code a b c : Int) (word : ByteArray) (A : Option Addr) (cp : Nat) (t : List ByteArray) (w : World) (hE : Env w) (hS : Strs w A t) (ht : t.length ≤ 1000000) (hts : ∀ s ∈ t, s.size ≤ 1000000) (hw : (word.toList == []) = false) (hs : word.size ≤ 1000000)
    (hr : Rp.rd code (word ++ (⟨#[32]⟩ : ByteArray)).data.toList = (a, b, c, [], true)) (a0 : -9223372036854775808 ≤ a) (a1 : a ≤ 9223372036854775807) (b0 : -9223372036854775808 ≤ b) (b1 : b ≤ 9223372036854775807) (c0 : -9223372036854775808 ≤ c) (c1 : c ≤ 9223372036854775807) (hR : Rp.right code a b c t = 0) :
    Calls Tryd.prog 21 #[.int .i64 code, .string word, .slice A t.length cp] w fun e w' => ∃ A' cp', e = .returned (.tuple #[.agg #[.int .i64 code, .int .i64 a, .int .i64 b, .int .i64 c, .slice A' t.length cp'], .int .i64 0]) ∧ Strs w' A' t ∧ Below w.heap.size w w' := by
  have hcl := fun W hZ => clone_any A cp t W hZ ht
  have hrd := fun W hW => read_any code (word ++ (⟨#[32]⟩ : ByteArray)) W hW (by rw [ByteArray.size_append]; have h1 : (⟨#[32]⟩ : ByteArray).size = 1 := rfl; omega)
  rw [hr] at hrd
  simp only [rdV] at hrd
  clear hr
  have hri := fun A' cp' W hW hZ => right_any code a b c A' cp' t W hW hZ (fun s h => Nat.le_trans (hts s h) (by decide)) (by omega) a0 a1 b0 b1 c0 c1
  rw [hR] at hri
  clear hR
  have HS := Aside.mk hS
  clear hS hts a0 a1 b0 b1 c0 c1
  have M0 : Aside (Mine w [(w.heap.size, #[.int .i64 0, .int .i64 0, .int .i64 0, .int .i64 0, .slice none 0 0], 25)] (w.alloc (.cells #[.int .i64 0, .int .i64 0, .int .i64 0, .int .i64 0, .slice none 0 0] 25))) := ⟨(Mine.start w).alloc _ _⟩
  go_enter Tryd.func21, Tryd.ntmps21
  go_wp2_with (first | (go_at_call 38; (with_reducible refine (hcl _ (HS.out.next M0.out.low)).mono ?_); rintro e w1 ⟨A', c', rfl, hrow, hb⟩; have M1 := M0.out.next hb; have hlt1 := Mine.lt M1; have M := Aside.mk (M1.alloc #[.int .i64 code, .int .i64 0, .int .i64 0, .int .i64 0, .slice A' t.length c'] 25); have R := Aside.mk (hrow.alloc (.cells #[.int .i64 code, .int .i64 0, .int .i64 0, .int .i64 0, .slice A' t.length c'] 25)); clear M0 M1 hb hrow; have z0 := Mine.at M.out 0 _ rfl; have z1 := Mine.at M.out 1 _ rfl; have z2 := Mine.at M.out 2 _ rfl; have z3 := Mine.at M.out 3 _ rfl; have z4 := Mine.at M.out 4 _ rfl; have y0 := Mine.free M.out 0; have y1 := Mine.free M.out 1; have y2 := Mine.free M.out 2; have y3 := Mine.free M.out 3; have y4 := Mine.free M.out 4; have zl := Mine.lt M.out; have x0 := Mine.at M.out.drop 0 _ rfl; have x1 := Mine.at M.out.drop 1 _ rfl; have x2 := Mine.at M.out.drop 2 _ rfl; have x3 := Mine.at M.out.drop 3 _ rfl; have x4 := Mine.at M.out.drop 4 _ rfl; have u0 := Mine.free M.out.drop 0; have u1 := Mine.free M.out.drop 1; have u2 := Mine.free M.out.drop 2; have u3 := Mine.free M.out.drop 3; have u4 := Mine.free M.out.drop 4; have xl := Mine.lt M.out.drop) | (go_at_call 39; (with_reducible refine (hrd _ (hE.next M.out.low)).mono ?_); rintro e w2 ⟨rfl, hb⟩; replace M := Aside.mk (M.out.next hb); replace R := Aside.mk (R.out.next hb); clear hb; (try clear z0); (try clear z1); (try clear z2); (try clear z3); (try clear z4); (try clear y0); (try clear y1); (try clear y2); (try clear y3); (try clear y4); (try clear zl); (try clear x0); (try clear x1); (try clear x2); (try clear x3); (try clear x4); (try clear u0); (try clear u1); (try clear u2); (try clear u3); (try clear u4); (try clear xl); have z0 := Mine.at M.out 0 _ rfl; have z1 := Mine.at M.out 1 _ rfl; have z2 := Mine.at M.out 2 _ rfl; have z3 := Mine.at M.out 3 _ rfl; have z4 := Mine.at M.out 4 _ rfl; have y0 := Mine.free M.out 0; have y1 := Mine.free M.out 1; have y2 := Mine.free M.out 2; have y3 := Mine.free M.out 3; have y4 := Mine.free M.out 4; have zl := Mine.lt M.out; have x0 := Mine.at M.out.drop 0 _ rfl; have x1 := Mine.at M.out.drop 1 _ rfl; have x2 := Mine.at M.out.drop 2 _ rfl; have x3 := Mine.at M.out.drop 3 _ rfl; have x4 := Mine.at M.out.drop 4 _ rfl; have u0 := Mine.free M.out.drop 0; have u1 := Mine.free M.out.drop 1; have u2 := Mine.free M.out.drop 2; have u3 := Mine.free M.out.drop 3; have u4 := Mine.free M.out.drop 4; have xl := Mine.lt M.out.drop) | (go_at_call 17; have hn := Row.ne R.out (M.out.own _ (List.mem_cons_self ..)).2 (show 25 ≠ 9 by decide); replace R := Aside.mk ((((R.out.setOther (a := ⟨w1.heap.size, 1, none⟩) hn (.int .i64 a)).setOther (a := ⟨w1.heap.size, 2, none⟩) hn (.int .i64 b)).setOther (a := ⟨w1.heap.size, 3, none⟩) hn (.int .i64 c)).alloc (.cells #[.int .i64 a, .int .i64 b, .int .i64 c] 23)); replace M := Aside.mk ((((M.out.set (by simp; omega) 1 (.int .i64 a)).set (by simp; omega) 2 (.int .i64 b)).set (by simp; omega) 3 (.int .i64 c)).allocO (.cells #[.int .i64 a, .int .i64 b, .int .i64 c] 23)); clear hn; (with_reducible refine (hri _ _ _ (hE.next M.out.low) R.out.strs).mono ?_); rintro e w3 ⟨rfl, hb⟩; replace M := Aside.mk (M.out.next hb); replace R := Aside.mk (R.out.next hb); clear hb; (try clear z0); (try clear z1); (try clear z2); (try clear z3); (try clear z4); (try clear y0); (try clear y1); (try clear y2); (try clear y3); (try clear y4); (try clear zl); (try clear x0); (try clear x1); (try clear x2); (try clear x3); (try clear x4); (try clear u0); (try clear u1); (try clear u2); (try clear u3); (try clear u4); (try clear xl); have z0 := Mine.at M.out 0 _ rfl; have z1 := Mine.at M.out 1 _ rfl; have z2 := Mine.at M.out 2 _ rfl; have z3 := Mine.at M.out 3 _ rfl; have z4 := Mine.at M.out 4 _ rfl; have y0 := Mine.free M.out 0; have y1 := Mine.free M.out 1; have y2 := Mine.free M.out 2; have y3 := Mine.free M.out 3; have y4 := Mine.free M.out 4; have zl := Mine.lt M.out; have x0 := Mine.at M.out.drop 0 _ rfl; have x1 := Mine.at M.out.drop 1 _ rfl; have x2 := Mine.at M.out.drop 2 _ rfl; have x3 := Mine.at M.out.drop 3 _ rfl; have x4 := Mine.at M.out.drop 4 _ rfl; have u0 := Mine.free M.out.drop 0; have u1 := Mine.free M.out.drop 1; have u2 := Mine.free M.out.drop 2; have u3 := Mine.free M.out.drop 3; have u4 := Mine.free M.out.drop 4; have xl := Mine.lt M.out.drop))
  refine bodyPost_ret (v := .tuple #[.agg #[.int .i64 code, .int .i64 a, .int .i64 b, .int .i64 c, .slice A' t.length c'], .int .i64 0]) (by simp [results, Tryd.results21, go_sem, x0, x1, x2, x3, x4]) rfl ⟨A', c', rfl, ?_, low5o M.out.low (Nat.le_refl _) _ _ _ _ _⟩
  have hn := Row.ne R.out (M.out.own _ (List.mem_cons_of_mem _ (List.mem_cons_self ..))).2 (show 25 ≠ 9 by decide)
  exact (((((R.out.setOther (a := ⟨w.heap.size, 0, none⟩) hn _).setOther (a := ⟨w.heap.size, 1, none⟩) hn _).setOther (a := ⟨w.heap.size, 2, none⟩) hn _).setOther (a := ⟨w.heap.size, 3, none⟩) hn _).setOther (a := ⟨w.heap.size, 4, none⟩) hn _).strs
end Go.Proofs.YtfeedokfcebjjaaDoor
