/-
  The reference of layers 2 and 5: xtext; one of a row.
-/
import Derived.Test.YtfffdbjfhdkheaaGreatDoorQPfC
import Derived.Test.YtfffdbjfhdkheaaGreatDoorQPmLaw2
set_option linter.unusedVariables false
set_option linter.unusedSimpArgs false
namespace Go.Proofs.YtfffdbjfhdkheaaGreatDoor
open Go.RowKit Go.Shelf
set_option maxRecDepth 100000
theorem enc_next (s : ByteArray) (k : Nat) (h : k < s.size) : Tx.enc (s.data.toList.take (k + 1)) = Tx.enc (s.data.toList.take k) ++ Tx.enc1 s[k] := by
  rw [take_next s k h, Tx.enc_snoc]
set_option maxHeartbeats 8000000 in
theorem refEncode_any (s : ByteArray) (hs : s.size ≤ 100000) (w : World) : Calls Tryz.prog 27 #[.string s] w fun e w' => e = .returned (.string ⟨(Tx.enc s.data.toList).toArray⟩) ∧ Below w.heap.size w w' := by
  go_enter Tryz.func27, Tryz.ntmps27
  go_wp2
  go_loopw [3, 4] (fun v i wr => BtRel Tx.enc s w v i wr) (fun _ i _ => s.size - (intOf i).toNat)
  case atStart => exact ⟨0, by omega, rfl, BRow.nil _ _, Below.refl _ w⟩
  case round =>
    obtain ⟨k, hk, rfl, hrow, hlow⟩ := hrel
    have R := Aside.mk hrow
    have L := Aside.mk hlow
    clear hrow hlow
    by_cases hlt : k < s.size
    · have he := enc_next s k hlt
      have hlen : (Tx.enc (s.data.toList.take k)).length ≤ 300000 := by
        have := Tx.enc_len (s.data.toList.take k)
        have h2 : (s.data.toList.take k).length ≤ 100000 := by simp; omega
        omega
      obtain ⟨x, hx⟩ : ∃ x, s[k] = x := ⟨_, rfl⟩
      rw [hx] at he
      have HT := Aside.mk he
      clear he
      have hpl := fun W => refPlain_any x W
      have hx8 := x.toNat_lt
      have he1 : Tx.enc1 x = if Txt.plain x then [x] else [43, Tx.hex (x.toNat / 16), Tx.hex (x.toNat % 16)] := rfl
      cases hp : Txt.plain x with
      | true =>
        rw [hp, if_pos rfl] at he1
        rw [hp] at hpl
        have HE := Aside.mk he1
        clear he1
        go_wp2_with (first | (go_at_call 69; (with_reducible refine (hpl _).mono ?_); rintro e w_ ⟨rfl, hw_⟩; have hw2_ := hw_.symm; subst hw2_; clear hw_) | (at_builtin; refine app_bytes rfl _ _ rfl w.heap.size _ _ (by rfl) (R.out.alloc _) wr.heap.size [x] (by simp) (by rfl) (heap_alloc_new _ _) (by simp; omega) (by simp; have := L.out.size; omega) ?_; intro v4 w4 hr4 hg4; have R6 := Aside.mk hr4; have L6 := Aside.mk ((L.out.alloc L.out.size (.cells #[.int .u8 (x.toNat : Int)] 5)).grown hg4 (by simp; have := L.out.size; omega) (fun k_ e_ => (R.out.lt k_ e_).1)); clear hr4 hg4))
        go_roundw
        case rel => exact ⟨k + 1, by omega, by go_num, by rw [HT.out, HE.out]; exact R6.out, L6.out⟩
        case measure => first | (simp [intOf]; done) | (simp [intOf]; omega)
      | false =>
        rw [hp, if_neg (by decide)] at he1
        rw [hp] at hpl
        have hs1 := fun W => (refSign_any (x.toNat / 16) (by omega) W).mono (fun e w' h => (⟨h.1, h.2 ▸ Below.refl _ _⟩ : _ ∧ Below W.heap.size W w'))
        have hs2 := fun W => (refSign_any (x.toNat % 16) (by omega) W).mono (fun e w' h => (⟨h.1, h.2 ▸ Below.refl _ _⟩ : _ ∧ Below W.heap.size W w'))
        have d1 : (x.toNat : Int).tdiv 16 = ((x.toNat / 16 : Nat) : Int) := rfl
        have d2 : (x.toNat : Int) / 16 = ((x.toNat / 16 : Nat) : Int) := rfl
        have r1 : (x.toNat : Int).tmod 16 = ((x.toNat % 16 : Nat) : Int) := rfl
        have r2 : (x.toNat : Int) % 16 = ((x.toNat % 16 : Nat) : Int) := rfl
        have w1 : IntKind.u8.wrap ((x.toNat / 16 : Nat) : Int) = ((x.toNat / 16 : Nat) : Int) := IntWalk.u8_in _ (by omega)
        have w2 : IntKind.u8.wrap ((x.toNat % 16 : Nat) : Int) = ((x.toNat % 16 : Nat) : Int) := IntWalk.u8_in _ (by omega)
        have HE := Aside.mk he1
        clear he1
        generalize x.toNat / 16 = q at *
        generalize x.toNat % 16 = r at *
        generalize Tx.hex q = hq at *
        generalize Tx.hex r = hr at *
        go_wp2_with (first | (go_at_call 69; (with_reducible refine (hpl _).mono ?_); rintro e w_ ⟨rfl, hw_⟩; have hw2_ := hw_.symm; subst hw2_; clear hw_))
        replace R := Aside.mk R.out.drew1
        replace L := Aside.mk (L.out.drew)
        go_region_held3 (fun w' => True) (trivial)
          (first | (go_at_call 70; first | ((with_reducible refine (hs1 _).mono ?_); rintro e w_ ⟨rfl, hb_⟩; replace R := Aside.mk (R.out.next hb_); replace L := Aside.mk (L.out.trans (hb_.mono L.out.size)); clear hb_) | ((with_reducible refine (hs2 _).mono ?_); rintro e w_ ⟨rfl, hb_⟩; replace R := Aside.mk (R.out.next hb_); replace L := Aside.mk (L.out.trans (hb_.mono L.out.size)); clear hb_)) | (refine app_bytes_step rfl _ _ rfl w.heap.size _ _ (by rfl) (R.out.alloc _) _ [43, hq, hr] (by simp) (by rfl) (heap_alloc_new _ _) (by simp; omega) (by simp; have := L.out.size; omega) ?_; intro v4 w4 hr4 hg4; have R6 := Aside.mk hr4; have L6 := Aside.mk ((L.out.alloc L.out.size (.cells #[.int .u8 43, .int .u8 (hq.toNat : Int), .int .u8 (hr.toNat : Int)] 5)).grown hg4 (by simp; have := L.out.size; omega) (fun k_ e_ => (R.out.lt k_ e_).1)); clear hr4 hg4))
        all_goals
          go_wp2
          go_roundw
          case rel => exact ⟨k + 1, by omega, by go_num, by rw [HT.out, HE.out]; exact R6.out, L6.out⟩
          case measure => first | (simp [intOf]; done) | (simp [intOf]; omega)
    · have hke : k = s.size := by omega
      subst hke
      have e : s.data.toList.take s.size = s.data.toList := List.take_of_length_le (by simp)
      have R2 := R.out
      rw [e] at R2
      obtain ⟨A, c, rfl, hconv⟩ := R2.text
      clear R2 R e
      go_wp2
      go_ret
      exact ⟨rfl, L.out⟩
theorem text_eqb (a b : ByteArray) : (a.toList == b.toList) = decide (a = b) := by
  rw [Lib.toList_data, Lib.toList_data, Bool.eq_iff_iff]
  simp only [beq_iff_eq, decide_eq_true_eq]
  exact ⟨fun h => ByteArray.ext (Array.toList_inj.1 h), fun h => h ▸ rfl⟩
set_option maxHeartbeats 4000000 in
theorem refAmong_any (s : ByteArray) (A : Option Addr) (c n : Nat) (xs : List ByteArray) (hn : xs.length = n) (w : World) (hS : Strs w A xs) (hx : n ≤ 1000000) : Calls Tryz.prog 68 #[.string s, .slice A n c] w fun e w' => e = .returned (.bool (Lib.containsS xs s)) ∧ w' = w := by
  subst hn
  have HS := Aside.mk hS
  clear hS
  go_enter Tryz.func68, Tryz.ntmps68
  go_wp2
  go_loopw [5] (fun i wr => wr = w ∧ ∃ k : Nat, k ≤ xs.length ∧ i = .int .i64 k ∧ s ∉ xs.take k) (fun i _ => xs.length - (intOf i).toNat)
  case atStart => exact ⟨rfl, 0, by omega, rfl, by simp⟩
  case round =>
    obtain ⟨rfl, k, hk, rfl, hno⟩ := hrel
    have HN := Aside.mk hno
    clear hno
    by_cases hlt : k < xs.length
    · obtain ⟨b_, o_, rfl, hb_, hcell⟩ := HS.out.at k hlt
      have hT := List.take_succ_eq_append_getElem (l := xs) (i := k) hlt
      have hm := List.getElem_mem hlt
      have HT := Aside.mk hT
      have HM := Aside.mk hm
      clear hT hm
      generalize xs[k] = y at *
      by_cases hy : y = s
      · have hb1 : (y.toList == s.toList) = true := by rw [text_eqb]; exact decide_eq_true hy
        have HY : Aside (Lib.containsS xs s = true) := ⟨(Pm.contains_iff xs s).2 (hy ▸ HM.out)⟩
        clear hy
        go_wp2
        go_ret
        exact ⟨by rw [HY.out]; rfl, rfl⟩
      · have hb1 : (y.toList == s.toList) = false := by rw [text_eqb]; exact decide_eq_false hy
        have HY := Aside.mk hy
        clear hy
        go_wp2
        go_roundw
        case rel => exact ⟨by first | trivial | rfl, k + 1, by omega, by go_num, by rw [HT.out]; intro q; exact (List.mem_append.1 q).elim HN.out (fun q => HY.out (List.mem_singleton.1 q).symm)⟩
        case measure => first | (simp [intOf]; done) | (simp [intOf]; omega)
    · have hke : k = xs.length := by omega
      subst hke
      have HY : Aside (Lib.containsS xs s = false) := ⟨Bool.eq_false_iff.2 (fun q => by have := HN.out; rw [List.take_of_length_le (Nat.le_refl _)] at this; exact this ((Pm.contains_iff xs s).1 q))⟩
      go_wp2
      go_ret
      exact ⟨by rw [HY.out]; rfl, rfl⟩
end Go.Proofs.YtfffdbjfhdkheaaGreatDoor
