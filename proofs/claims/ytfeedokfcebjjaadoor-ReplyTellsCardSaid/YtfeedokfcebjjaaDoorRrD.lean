/-
  Walks of the package reply: the reference's Right, Print, Same.
-/
import Derived.Test.YtfeedokfcebjjaaDoorRrB2
import Derived.Test.YtfeedokfcebjjaaDoorRrC
import Derived.Test.YtfeedokfcebjjaaDoorRpPrint
import Derived.Test.YtfeedokfcebjjaaDoorRpSame
import Derived.Test.YtfeedokfcebjjaaDoorRpLaw
import Derived.Deep.RegionHeld3
import Derived.Outline
set_option linter.unusedVariables false
set_option linter.unusedSimpArgs false
namespace Go.Proofs.YtfeedokfcebjjaaDoor
open Go.RowKit
set_option maxRecDepth 100000
attribute [local go_sem] equal3
set_option maxHeartbeats 4000000 in
theorem rright_range (code a b c : Int) (A : Option Addr) (m cp : Nat) (w : World) (h : Rp.cls code = 0 ∨ Rp.fits code a b c = false) :
    Calls Tryd.prog 18 #[.agg #[.int .i64 code, .int .i64 a, .int .i64 b, .int .i64 c, .slice A m cp]] w fun e w' => e = .returned (.int .i64 1) ∧ Below w.heap.size w w' := by
  have M : Aside (Mine w [(w.heap.size, #[.int .i64 code, .int .i64 a, .int .i64 b, .int .i64 c, .slice A m cp], 25)] (w.alloc (.cells #[.int .i64 code, .int .i64 a, .int .i64 b, .int .i64 c, .slice A m cp] 25))) := ⟨(Mine.start w).alloc _ _⟩
  by_cases h0 : Rp.cls code = 0
  · have e0 : ((Rp.cls code : Int) == 0) = true := by simpa using h0
    go_enter Tryd.func18, Tryd.ntmps18
    go_wp2_with (first | (go_at_call 20; (with_reducible refine (rclass_any _ _).mono ?_); rintro e w' ⟨rfl, hw⟩; have hw' := hw.symm; clear hw; subst hw'))
    go_ret
    exact ⟨rfl, M.out.low⟩
  · have hf : Rp.fits code a b c = false := h.resolve_left h0
    have e0 : ((Rp.cls code : Int) == 0) = false := by simpa using h0
    go_enter Tryd.func18, Tryd.ntmps18
    go_wp2_with (first | (go_at_call 20; (with_reducible refine (rclass_any _ _).mono ?_); rintro e w' ⟨rfl, hw⟩; have hw' := hw.symm; clear hw; subst hw') | (go_at_call 37; (with_reducible refine (rfits_any _ _ _ _ h0 _).mono ?_); rintro e w1 ⟨rfl, hb⟩; rw [hf]; replace M := Aside.mk (M.out.next hb); clear hb; (try clear z0); (try clear z1); (try clear z2); (try clear z3); (try clear z4); (try clear zl); have z0 := Mine.at M.out 0 _ rfl; have z1 := Mine.at M.out 1 _ rfl; have z2 := Mine.at M.out 2 _ rfl; have z3 := Mine.at M.out 3 _ rfl; have z4 := Mine.at M.out 4 _ rfl; have zl := Mine.lt M.out))
    go_ret
    exact ⟨rfl, M.out.low⟩
/-- Between two rounds of the second loop. -/
def RrRel (code a b c : Int) (A : Option Addr) (m cp : Nat) (t : List ByteArray) (w : World) (i : Value) (wr : World) : Prop :=
  ∃ k : Nat, k ≤ m ∧ i = .int .i64 k ∧ (t.take k).any (Rp.big a b c) = false ∧ Mine w [(w.heap.size, #[.int .i64 code, .int .i64 a, .int .i64 b, .int .i64 c, .slice A m cp], 25)] wr
set_option maxHeartbeats 8000000 in
theorem rright_in (code a b c : Int) (A : Option Addr) (m cp : Nat) (t : List ByteArray) (hm : t.length = m) (w : World) (hS : Strs w A t) (hs : ∀ s ∈ t, s.size ≤ 1000000) (ht : m ≤ 1000000) (h0 : Rp.cls code ≠ 0) (hf : Rp.fits code a b c = true) (a0 : 0 ≤ a) (a1 : a ≤ 999) (b0 : 0 ≤ b) (b1 : b ≤ 999) (c0 : 0 ≤ c) (c1 : c ≤ 999) :
    Calls Tryd.prog 18 #[.agg #[.int .i64 code, .int .i64 a, .int .i64 b, .int .i64 c, .slice A m cp]] w fun e w' => e = .returned (.int .i64 (Rp.rest a b c t)) ∧ Below w.heap.size w w' := by
  have M : Aside (Mine w [(w.heap.size, #[.int .i64 code, .int .i64 a, .int .i64 b, .int .i64 c, .slice A m cp], 25)] (w.alloc (.cells #[.int .i64 code, .int .i64 a, .int .i64 b, .int .i64 c, .slice A m cp] 25))) := ⟨(Mine.start w).alloc _ _⟩
  have HS := Aside.mk hS
  have Hs := Aside.mk hs
  have e0 : ((Rp.cls code : Int) == 0) = false := by simpa using h0
  have lenh : (Rp.enh a b c).length ≤ 66 := by
    have la := Lib.itoa_length_le a (by omega) (by omega)
    have lb := Lib.itoa_length_le b (by omega) (by omega)
    have lc := Lib.itoa_length_le c (by omega) (by omega)
    unfold Rp.enh; split <;> simp <;> omega
  clear hS hs
  go_enter Tryd.func18, Tryd.ntmps18
  go_wp2_with (first | (go_at_call 20; (with_reducible refine (rclass_any _ _).mono ?_); rintro e w' ⟨rfl, hw⟩; have hw' := hw.symm; clear hw; subst hw') | (go_at_call 37; (with_reducible refine (rfits_any _ _ _ _ h0 _).mono ?_); rintro e w1 ⟨rfl, hb⟩; rw [hf]; replace M := Aside.mk (M.out.next hb); clear hb; (try clear z0); (try clear z1); (try clear z2); (try clear z3); (try clear z4); (try clear zl); have z0 := Mine.at M.out 0 _ rfl; have z1 := Mine.at M.out 1 _ rfl; have z2 := Mine.at M.out 2 _ rfl; have z3 := Mine.at M.out 3 _ rfl; have z4 := Mine.at M.out 4 _ rfl; have zl := Mine.lt M.out))
  go_loopw [3] (fun i wr => ∃ k : Nat, k ≤ m ∧ i = .int .i64 k ∧ (t.take k).all (fun s => Rp.shown s.data.toList) = true ∧ wr = w1) (fun i _ => m - (intOf i).toNat)
  case atStart => exact ⟨0, by omega, rfl, rfl, rfl⟩
  case round =>
    obtain ⟨k, hk, rfl, hall, rfl⟩ := hrel
    have HA := Lib.hid hall
    clear hall
    by_cases hlt : k < m
    · obtain ⟨bb, oo, rfl, hbl, hcell⟩ := (HS.out.next M.out.low).at k (by omega)
      have hsz := Hs.out t[k] (List.getElem_mem _)
      have HT := Lib.hid (List.take_succ_eq_append_getElem (l := t) (i := k) (by omega))
      have hmem := Aside.mk (List.getElem_mem (l := t) (n := k) (by omega))
      generalize t[k] = s at hcell hsz HT hmem
      have hsh := fun W => rshown_any s W (by omega)
      cases hv : Rp.shown s.data.toList with
      | false =>
        rw [hv] at hsh
        have HR := Lib.hid (Rp.rest_2 (a := a) (b := b) (c := c) (t := t) (by
          cases hq : t.all (fun s => Rp.shown s.data.toList) with
          | false => rfl
          | true => have := List.all_eq_true.1 hq s hmem.out; rw [hv] at this; cases this))
        go_wp2_with (first | (go_at_call 29; (with_reducible refine (hsh _).mono ?_); rintro e w' ⟨rfl, hw⟩; have hw' := hw.symm; clear hw; subst hw'))
        go_ret
        exact ⟨ret_int HR.out.symm, M.out.low⟩
      | true =>
        rw [hv] at hsh
        have HR := Lib.hid (show (t.take (k + 1)).all (fun s => Rp.shown s.data.toList) = true by rw [HT.out, List.all_append, HA.out]; simp [hv])
        go_wp2_with (first | (go_at_call 29; (with_reducible refine (hsh _).mono ?_); rintro e w' ⟨rfl, hw⟩; have hw' := hw.symm; clear hw; subst hw'))
        go_roundw
        case rel => exact ⟨k + 1, by omega, by go_num, HR.out, by trivial⟩
        case measure => simp [intOf]; omega
    · obtain rfl : m = k := by omega
      have HALL := Lib.hid (show t.all (fun s => Rp.shown s.data.toList) = true by have := HA.out; rw [List.take_of_length_le (by omega)] at this; exact this)
      clear HA
      by_cases hm0 : m = 0
      · have HR := Lib.hid (Rp.rest_3 (a := a) (b := b) (c := c) HALL.out (by rw [decide_eq_true (by omega)]; rfl))
        have hz : ((m : Int) == 0) = true := by simp [hm0]
        go_wp2
        go_ret
        exact ⟨ret_int HR.out.symm, M.out.low⟩
      · have hz : ((m : Int) == 0) = false := by simp [hm0]
        by_cases h32 : (32 : Int) < (m : Int)
        · have HR := Lib.hid (Rp.rest_3 (a := a) (b := b) (c := c) HALL.out (by rw [decide_eq_true (by omega)]; rfl))
          go_wp2
          go_ret
          exact ⟨ret_int HR.out.symm, M.out.low⟩
        · go_wp2
          go_loopw [4] (fun i wr => RrRel code a b c A m cp t w i wr) (fun i _ => m - (intOf i).toNat)
          case atStart => exact ⟨0, by omega, rfl, rfl, M.out⟩
          case round =>
            clear M z0 z1 z2 z3 z4 zl
            obtain ⟨k, hk, rfl, hany, hmine⟩ := hrel
            have HA := Lib.hid hany
            have M := Aside.mk hmine
            clear hany hmine
            (try clear z0); (try clear z1); (try clear z2); (try clear z3); (try clear z4); (try clear zl); have z0 := Mine.at M.out 0 _ rfl; have z1 := Mine.at M.out 1 _ rfl; have z2 := Mine.at M.out 2 _ rfl; have z3 := Mine.at M.out 3 _ rfl; have z4 := Mine.at M.out 4 _ rfl; have zl := Mine.lt M.out
            by_cases hlt : k < m
            · obtain ⟨bb, oo, rfl, hbl, hcell⟩ := HS.out.at k (by omega)
              have hsz := Hs.out t[k] (List.getElem_mem _)
              have HT := Lib.hid (List.take_succ_eq_append_getElem (l := t) (i := k) (by omega))
              have hmem := Aside.mk (List.getElem_mem (l := t) (n := k) (by omega))
              generalize t[k] = s at hcell hsz HT hmem
              have hi1 : (0 : Int) ≤ (k : Int) := by omega
              have hi2 : (k : Int) < (m : Int) := by omega
              have hw1 : IntKind.i64.wrap (4 + ((Rp.enh a b c).length : Int)) = 4 + ((Rp.enh a b c).length : Int) := IntWalk.i64_in _ (by omega)
              have hw2 : IntKind.i64.wrap (4 + ((Rp.enh a b c).length : Int) + (s.size : Int)) = 4 + ((Rp.enh a b c).length : Int) + (s.size : Int) := IntWalk.i64_in _ (by omega)
              go_wp2
              refine region_class (C := (fun w' => Mine w [(w.heap.size, #[.int .i64 code, .int .i64 a, .int .i64 b, .int .i64 c, .slice (some ⟨bb, oo, none⟩) m cp], 25)] w')) (by kernel_rfl) (by kernel_rfl) (M.out.drewN 1) ?_
              refine q_run ?_ ?_ ?_ ?_
              · kernel_rfl
              rotate_left
              · intro w_ hw_
                have c0 := Mine.at hw_ 1 _ rfl
                have c1_ := Mine.at hw_ 2 _ rfl
                have c2_ := Mine.at hw_ 3 _ rfl
                have c4 := Mine.at hw_ 4 _ rfl
                have cl := Mine.lt hw_
                have ct := cell_next hw_.low hcell
                first | (go_simp; done) | (go_simp; with_reducible rfl) | (go_simp; rw [if_neg (by first | omega | (simp; omega))])
              try simp only [Act.put, List.setIfInBounds_toArray, List.set_cons_zero, List.set_cons_succ]
              refine q_row ?_ _ _ rfl w.heap.size 1 ?_ [.int .i64 a, .int .i64 b, .int .i64 c] _ ?_ Tryd.underlying23 rfl (by kernel_rfl) ?_
              · kernel_rfl
              · rfl
              · intro w_ hw_
                have c0 := Mine.at hw_ 1 _ rfl
                have c1_ := Mine.at hw_ 2 _ rfl
                have c2_ := Mine.at hw_ 3 _ rfl
                have c4 := Mine.at hw_ 4 _ rfl
                have cl := Mine.lt hw_
                have ct := cell_next hw_.low hcell
                intro j_ v_ hv_
                match j_, hv_ with
                | 0, hv_ => (simp at hv_; subst hv_; first | assumption | (simpa using c0))
                | 1, hv_ => (simp at hv_; subst hv_; first | assumption | (simpa using c1_))
                | 2, hv_ => (simp at hv_; subst hv_; first | assumption | (simpa using c2_))
              try simp only [Act.put, List.setIfInBounds_toArray, List.set_cons_zero, List.set_cons_succ]
              refine q_call ?_ (.string ⟨(Rp.enh a b c).toArray⟩) ?_ ?_ ?_ ?_ ?_
              · kernel_rfl
              rotate_left 2
              · intro w_ hw_
                go_simp
                refine ⟨?_, ?_⟩ <;> with_reducible rfl
              · intro w_ hw_
                have c0 := Mine.at hw_ 1 _ rfl
                have c1_ := Mine.at hw_ 2 _ rfl
                have c2_ := Mine.at hw_ 3 _ rfl
                have c4 := Mine.at hw_ 4 _ rfl
                have cl := Mine.lt hw_
                have ct := cell_next hw_.low hcell
                exact (word_any a b c _ (by omega) (by omega) (by omega) (by omega) (by omega) (by omega)).mono fun _ _ ⟨h1_, h2_⟩ => ⟨h1_, hw_.next h2_⟩
              try simp only [Act.put, List.setIfInBounds_toArray, List.set_cons_zero, List.set_cons_succ]
              refine q_run ?_ ?_ ?_ ?_
              · kernel_rfl
              rotate_left
              · intro w_ hw_
                have c0 := Mine.at hw_ 1 _ rfl
                have c1_ := Mine.at hw_ 2 _ rfl
                have c2_ := Mine.at hw_ 3 _ rfl
                have c4 := Mine.at hw_ 4 _ rfl
                have cl := Mine.lt hw_
                have ct := cell_next hw_.low hcell
                first | (go_simp; done) | (go_simp; with_reducible rfl) | (go_simp; rw [if_neg (by first | omega | (simp; omega))])
              try simp only [Act.put, List.setIfInBounds_toArray, List.set_cons_zero, List.set_cons_succ]
              refine q_run ?_ ?_ ?_ ?_
              · kernel_rfl
              rotate_left
              · intro w_ hw_
                have c0 := Mine.at hw_ 1 _ rfl
                have c1_ := Mine.at hw_ 2 _ rfl
                have c2_ := Mine.at hw_ 3 _ rfl
                have c4 := Mine.at hw_ 4 _ rfl
                have cl := Mine.lt hw_
                have ct := cell_next hw_.low hcell
                first | (go_simp; done) | (go_simp; with_reducible rfl) | (go_simp; rw [if_neg (by first | omega | (simp; omega))])
              try simp only [Act.put, List.setIfInBounds_toArray, List.set_cons_zero, List.set_cons_succ]
              refine q_run ?_ ?_ ?_ ?_
              · kernel_rfl
              rotate_left
              · intro w_ hw_
                have c0 := Mine.at hw_ 1 _ rfl
                have c1_ := Mine.at hw_ 2 _ rfl
                have c2_ := Mine.at hw_ 3 _ rfl
                have c4 := Mine.at hw_ 4 _ rfl
                have cl := Mine.lt hw_
                have ct := cell_next hw_.low hcell
                first | (go_simp; done) | (go_simp; with_reducible rfl) | (go_simp; rw [if_neg (by first | omega | (simp; omega))])
              try simp only [Act.put, List.setIfInBounds_toArray, List.set_cons_zero, List.set_cons_succ]
              refine q_run ?_ ?_ ?_ ?_
              · kernel_rfl
              rotate_left
              · intro w_ hw_
                have c0 := Mine.at hw_ 1 _ rfl
                have c1_ := Mine.at hw_ 2 _ rfl
                have c2_ := Mine.at hw_ 3 _ rfl
                have c4 := Mine.at hw_ 4 _ rfl
                have cl := Mine.lt hw_
                have ct := cell_next hw_.low hcell
                first | (go_simp; done) | (go_simp; with_reducible rfl) | (go_simp; rw [if_neg (by first | omega | (simp; omega))])
              try simp only [Act.put, List.setIfInBounds_toArray, List.set_cons_zero, List.set_cons_succ]
              refine q_run ?_ ?_ ?_ ?_
              · kernel_rfl
              rotate_left
              · intro w_ hw_
                have c0 := Mine.at hw_ 1 _ rfl
                have c1_ := Mine.at hw_ 2 _ rfl
                have c2_ := Mine.at hw_ 3 _ rfl
                have c4 := Mine.at hw_ 4 _ rfl
                have cl := Mine.lt hw_
                have ct := cell_next hw_.low hcell
                first | (go_simp; done) | (go_simp; with_reducible rfl) | (go_simp; rw [if_neg (by first | omega | (simp; omega))])
              try simp only [Act.put, List.setIfInBounds_toArray, List.set_cons_zero, List.set_cons_succ]
              refine q_run ?_ ?_ ?_ ?_
              · kernel_rfl
              rotate_left
              · intro w_ hw_
                have c0 := Mine.at hw_ 1 _ rfl
                have c1_ := Mine.at hw_ 2 _ rfl
                have c2_ := Mine.at hw_ 3 _ rfl
                have c4 := Mine.at hw_ 4 _ rfl
                have cl := Mine.lt hw_
                have ct := cell_next hw_.low hcell
                first | (go_simp; done) | (go_simp; with_reducible rfl) | (go_simp; rw [if_neg (by first | omega | (simp; omega))])
              try simp only [Act.put, List.setIfInBounds_toArray, List.set_cons_zero, List.set_cons_succ]
              refine q_run ?_ ?_ ?_ ?_
              · kernel_rfl
              rotate_left
              · intro w_ hw_
                have c0 := Mine.at hw_ 1 _ rfl
                have c1_ := Mine.at hw_ 2 _ rfl
                have c2_ := Mine.at hw_ 3 _ rfl
                have c4 := Mine.at hw_ 4 _ rfl
                have cl := Mine.lt hw_
                have ct := cell_next hw_.low hcell
                first | (go_simp; done) | (go_simp; with_reducible rfl) | (go_simp; rw [if_neg (by first | omega | (simp; omega))])
              try simp only [Act.put, List.setIfInBounds_toArray, List.set_cons_zero, List.set_cons_succ]
              refine q_run ?_ ?_ ?_ ?_
              · kernel_rfl
              rotate_left
              · intro w_ hw_
                have c0 := Mine.at hw_ 1 _ rfl
                have c1_ := Mine.at hw_ 2 _ rfl
                have c2_ := Mine.at hw_ 3 _ rfl
                have c4 := Mine.at hw_ 4 _ rfl
                have cl := Mine.lt hw_
                have ct := cell_next hw_.low hcell
                first | (go_simp; done) | (go_simp; with_reducible rfl) | (go_simp; rw [if_neg (by first | omega | (simp; omega))])
              try simp only [Act.put, List.setIfInBounds_toArray, List.set_cons_zero, List.set_cons_succ]
              refine q_run ?_ ?_ ?_ ?_
              · kernel_rfl
              rotate_left
              · intro w_ hw_
                have c0 := Mine.at hw_ 1 _ rfl
                have c1_ := Mine.at hw_ 2 _ rfl
                have c2_ := Mine.at hw_ 3 _ rfl
                have c4 := Mine.at hw_ 4 _ rfl
                have cl := Mine.lt hw_
                have ct := cell_next hw_.low hcell
                first | (go_simp; done) | (go_simp; with_reducible rfl) | (go_simp; rw [if_neg (by first | omega | (simp; omega))])
              try simp only [Act.put, List.setIfInBounds_toArray, List.set_cons_zero, List.set_cons_succ]
              refine q_run ?_ ?_ ?_ ?_
              · kernel_rfl
              rotate_left
              · intro w_ hw_
                have c0 := Mine.at hw_ 1 _ rfl
                have c1_ := Mine.at hw_ 2 _ rfl
                have c2_ := Mine.at hw_ 3 _ rfl
                have c4 := Mine.at hw_ 4 _ rfl
                have cl := Mine.lt hw_
                have ct := cell_next hw_.low hcell
                first | (go_simp; done) | (go_simp; with_reducible rfl) | (go_simp; rw [if_neg (by first | omega | (simp; omega))])
              try simp only [Act.put, List.setIfInBounds_toArray, List.set_cons_zero, List.set_cons_succ]
              refine q_nil ?_
              intro W_ hC_
              replace M := Aside.mk hC_
              clear hC_
              by_cases hbig : (510 : Int) < 4 + ((Rp.enh a b c).length : Int) + s.size
              · have HR := Lib.hid (Rp.rest_3 (a := a) (b := b) (c := c) (t := t) HALL.out (by rw [show t.any (Rp.big a b c) = true from List.any_eq_true.2 ⟨s, hmem.out, decide_eq_true hbig⟩]; simp))
                go_wp2
                go_ret
                exact ⟨ret_int HR.out.symm, M.out.low⟩
              · have HR := Lib.hid (show (t.take (k + 1)).any (Rp.big a b c) = false by rw [HT.out, List.any_append, HA.out]; simp [Rp.big]; omega)
                go_wp2
                go_roundw
                case rel => exact ⟨k + 1, by omega, by go_num, HR.out, M.out⟩
                case measure => simp [intOf]; omega
            · obtain rfl : m = k := by omega
              have HR := Lib.hid (Rp.rest_0 (a := a) (b := b) (c := c) HALL.out (by have := HA.out; rw [List.take_of_length_le (by omega)] at this; rw [this, decide_eq_false (by omega)]; rfl))
              go_wp2
              go_ret
              exact ⟨ret_int HR.out.symm, M.out.low⟩
theorem fits_low {code a b c : Int} (h0 : Rp.cls code ≠ 0) (hf : Rp.fits code a b c = true) : 0 ≤ a ∧ a ≤ 999 ∧ 0 ≤ b ∧ b ≤ 999 ∧ 0 ≤ c ∧ c ≤ 999 := by
  have hcl := (Rp.cls_01 code).resolve_left h0
  rcases Rp.fits_iff.1 hf with q | q <;> omega
theorem rright_any (code a b c : Int) (A : Option Addr) (m cp : Nat) (t : List ByteArray) (hm : t.length = m) (w : World) (hS : Strs w A t) (hs : ∀ s ∈ t, s.size ≤ 1000000) (ht : m ≤ 1000000) :
    Calls Tryd.prog 18 #[.agg #[.int .i64 code, .int .i64 a, .int .i64 b, .int .i64 c, .slice A m cp]] w fun e w' => e = .returned (.int .i64 (Rp.right code a b c t)) ∧ Below w.heap.size w w' := by
  unfold Rp.right
  by_cases h : Rp.cls code = 0 ∨ Rp.fits code a b c = false
  · rw [if_pos h]; exact rright_range code a b c A m cp w h
  · rw [if_neg h]
    have h0 : Rp.cls code ≠ 0 := fun q => h (.inl q)
    have hf : Rp.fits code a b c = true := by cases hf : Rp.fits code a b c with | true => rfl | false => exact absurd (.inr hf) h
    obtain ⟨q1, q2, q3, q4, q5, q6⟩ := fits_low h0 hf
    exact rright_in code a b c A m cp t hm w hS hs ht h0 hf q1 q2 q3 q4 q5 q6
end Go.Proofs.YtfeedokfcebjjaaDoor
