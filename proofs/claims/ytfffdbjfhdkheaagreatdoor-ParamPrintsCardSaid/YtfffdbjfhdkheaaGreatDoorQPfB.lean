/-
  The reference of layer 5: capital letters, a type, xtext.
-/
import Derived.Test.YtfffdbjfhdkheaaGreatDoorQPfA
set_option linter.unusedVariables false
set_option linter.unusedSimpArgs false
namespace Go.Proofs.YtfffdbjfhdkheaaGreatDoor
open Go.RowKit Go.Shelf
set_option maxRecDepth 100000
theorem take_next (s : ByteArray) (k : Nat) (h : k < s.size) : s.data.toList.take (k + 1) = s.data.toList.take k ++ [s[k]] := by
  have hl : k < s.data.toList.length := by simpa using h
  rw [List.take_succ_eq_append_getElem hl]
  rfl
/-- Between two rounds: as far as byte k all is laid. -/
def BtRel (f : List UInt8 → List UInt8) (s : ByteArray) (w : World) (v i : Value) (wr : World) : Prop := ∃ k : Nat, k ≤ s.size ∧ i = .int .i64 k ∧ BRow wr w.heap.size v (f (s.data.toList.take k)) ∧ Below w.heap.size w wr
set_option maxHeartbeats 4000000 in
theorem refUpper_any (s : ByteArray) (hs : s.size ≤ 100000) (w : World) : Calls Tryz.prog 75 #[.string s] w fun e w' => e = .returned (.string ⟨(Txt.upper s.data.toList).toArray⟩) ∧ Below w.heap.size w w' := by
  go_enter Tryz.func75, Tryz.ntmps75
  go_wp2
  go_loopw [3, 4] (fun v i wr => BtRel Txt.upper s w v i wr) (fun _ i _ => s.size - (intOf i).toNat)
  case atStart => exact ⟨0, by omega, rfl, BRow.nil _ _, Below.refl _ w⟩
  case round =>
    obtain ⟨k, hk, rfl, hrow, hlow⟩ := hrel
    have R := Aside.mk hrow
    have L := Aside.mk hlow
    clear hrow hlow
    by_cases hlt : k < s.size
    · have HT := Aside.mk (take_next s k hlt)
      obtain ⟨x, hx⟩ : ∃ x, s[k] = x := ⟨_, rfl⟩
      rw [hx] at HT
      have hlen : (Txt.upper (s.data.toList.take k)).length ≤ 100000 := by unfold Txt.upper; simp; omega
      have hx8 := x.toNat_lt
      by_cases hup : 97 ≤ x.toNat ∧ x.toNat ≤ 122
      · have h1 : decide ((97 : Int) ≤ (x.toNat : Int)) = true := decide_eq_true (by omega)
        have h2 : decide ((x.toNat : Int) ≤ 122) = true := decide_eq_true (by omega)
        have hy := Txt.up_low hup
        obtain ⟨y, hyx⟩ : ∃ y, Txt.up x = y := ⟨_, rfl⟩
        rw [hyx] at hy
        have hw : IntKind.u8.wrap ((x.toNat : Int) - 32) = (y.toNat : Int) := by rw [IntWalk.u8_in _ (by omega)]; omega
        have HY := Aside.mk hyx
        clear hy hyx
        go_wp2_with (at_builtin; refine app_bytes rfl _ _ rfl w.heap.size _ _ (by rfl) (R.out.alloc _) wr.heap.size [y] (by simp) (by rfl) (heap_alloc_new _ _) (by simp; omega) (by simp; have := L.out.size; omega) ?_; intro v4 w4 hr4 hg4; have R6 := Aside.mk hr4; have L6 := Aside.mk ((L.out.alloc L.out.size (.cells #[.int .u8 (y.toNat : Int)] 5)).grown hg4 (by simp; have := L.out.size; omega) (fun k_ e_ => (R.out.lt k_ e_).1)); clear hr4 hg4)
        go_roundw
        case rel => exact ⟨k + 1, by omega, by go_num, by rw [HT.out]; simpa [Txt.upper, HY.out] using R6.out, L6.out⟩
        case measure => first | (simp [intOf]; done) | (simp [intOf]; omega)
      · have hy : Txt.up x = x := by unfold Txt.up; rw [if_neg hup]
        by_cases h97 : 97 ≤ x.toNat
        · have h1 : decide ((97 : Int) ≤ (x.toNat : Int)) = true := decide_eq_true (by omega)
          have h2 : decide ((x.toNat : Int) ≤ 122) = false := decide_eq_false (by omega)
          go_wp2_with (at_builtin; refine app_bytes rfl _ _ rfl w.heap.size _ _ (by rfl) (R.out.alloc _) wr.heap.size [x] (by simp) (by rfl) (heap_alloc_new _ _) (by simp; omega) (by simp; have := L.out.size; omega) ?_; intro v4 w4 hr4 hg4; have R6 := Aside.mk hr4; have L6 := Aside.mk ((L.out.alloc L.out.size (.cells #[.int .u8 (x.toNat : Int)] 5)).grown hg4 (by simp; have := L.out.size; omega) (fun k_ e_ => (R.out.lt k_ e_).1)); clear hr4 hg4)
          go_roundw
          case rel => exact ⟨k + 1, by omega, by go_num, by rw [HT.out]; simpa [Txt.upper, hy] using R6.out, L6.out⟩
          case measure => first | (simp [intOf]; done) | (simp [intOf]; omega)
        · have h1 : decide ((97 : Int) ≤ (x.toNat : Int)) = false := decide_eq_false (by omega)
          go_wp2_with (at_builtin; refine app_bytes rfl _ _ rfl w.heap.size _ _ (by rfl) (R.out.alloc _) wr.heap.size [x] (by simp) (by rfl) (heap_alloc_new _ _) (by simp; omega) (by simp; have := L.out.size; omega) ?_; intro v4 w4 hr4 hg4; have R6 := Aside.mk hr4; have L6 := Aside.mk ((L.out.alloc L.out.size (.cells #[.int .u8 (x.toNat : Int)] 5)).grown hg4 (by simp; have := L.out.size; omega) (fun k_ e_ => (R.out.lt k_ e_).1)); clear hr4 hg4)
          go_roundw
          case rel => exact ⟨k + 1, by omega, by go_num, by rw [HT.out]; simpa [Txt.upper, hy] using R6.out, L6.out⟩
          case measure => first | (simp [intOf]; done) | (simp [intOf]; omega)
    · have hke : k = s.size := by omega
      subst hke
      have e : s.data.toList.take s.size = s.data.toList := List.take_of_length_le (by simp)
      have R2 := R.out
      rw [e] at R2
      obtain ⟨A, c, rfl, hconv⟩ := R2.text
      clear R2 R e
      go_wp2
      go_ret
      exact ⟨rfl, L.out⟩
end Go.Proofs.YtfffdbjfhdkheaaGreatDoor
