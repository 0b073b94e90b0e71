/-
  Walks of the package reply: Same, the reference's Same, few.
-/
import Derived.Test.YtfeedokfcebjjaaDoorEnv
import Derived.Test.YtfeedokfcebjjaaDoorStrs
import Derived.Test.YtfeedokfcebjjaaDoorArr3
import Derived.Test.YtfeedokfcebjjaaDoorQuiet2
import Derived.Test.YtfeedokfcebjjaaDoorRpCal
import Derived.Deep.RegionHeld3
import Derived.Outline
set_option linter.unusedVariables false
set_option linter.unusedSimpArgs false
namespace Go.Proofs.YtfeedokfcebjjaaDoor
open Go.RowKit
set_option maxRecDepth 100000
attribute [local go_sem] equal3
theorem equal_any (A A' : Option Addr) (cp cp' : Nat) (xs ys : List ByteArray) (w : World) (hx : Strs w A xs) (hy : Strs w A' ys) (lx : xs.length ≤ 1000000) (ly : ys.length ≤ 1000000) :
    Calls Tryd.prog 35 #[.slice A xs.length cp, .slice A' ys.length cp'] w fun e w' => e = .returned (.bool (decide (xs = ys))) ∧ Below w.heap.size w w' := by
  by_cases hl : xs.length = ys.length
  · by_cases h0 : xs.length = 0
    · have e1 : xs = [] := List.length_eq_zero_iff.1 h0
      have e2 : ys = [] := List.length_eq_zero_iff.1 (by omega)
      subst e1 e2
      exact (Tryd.slices_Equal_string_empty A A' cp 0 cp' w (by omega)).mono fun _ _ ⟨h, hw⟩ => ⟨by rw [h]; rfl, hw ▸ Below.refl _ _⟩
    · obtain ⟨b1, o1, rfl, _, hc1⟩ := hx (by intro e; rw [e] at h0; exact h0 rfl)
      obtain ⟨b2, o2, rfl, _, hc2⟩ := hy (by intro e; rw [e] at hl; exact h0 (by rw [hl]; rfl))
      refine (Tryd.slices_Equal_string b1 o1 xs.length cp b2 o2 ys.length cp' xs ys w (Nat.le_refl _) (Nat.le_refl _) (by omega) (by omega) (fun j hj => by rw [hc1 j hj, List.getD_eq_getElem?_getD, List.getElem?_eq_getElem hj]; rfl) (fun j hj => by rw [hc2 j hj, List.getD_eq_getElem?_getD, List.getElem?_eq_getElem hj]; rfl)).mono fun _ _ ⟨h, q, hw⟩ => ⟨by rw [h, List.take_of_length_le (Nat.le_refl _), List.take_of_length_le (Nat.le_refl _)], hw ▸ below_drewN w q⟩
  · exact (Tryd.slices_Equal_string_lens A A' xs.length cp ys.length cp' w hl).mono fun _ _ ⟨h, hw⟩ => ⟨by rw [h, decide_eq_false (fun e => hl (by rw [e]))], hw ▸ Below.refl _ _⟩
def Rp.same (code a b c : Int) (xs : List ByteArray) (code' a' b' c' : Int) (ys : List ByteArray) : Bool := (code == code') && (same3 a b c a' b' c' && decide (xs = ys))
set_option maxHeartbeats 4000000 in
theorem same_any (code a b c : Int) (A : Option Addr) (cp : Nat) (xs : List ByteArray) (code' a' b' c' : Int) (A' : Option Addr) (cp' : Nat) (ys : List ByteArray) (w : World) (hx : Strs w A xs) (hy : Strs w A' ys) (lx : xs.length ≤ 1000000) (ly : ys.length ≤ 1000000) :
    Calls Tryd.prog 14 #[.agg #[.int .i64 code, .int .i64 a, .int .i64 b, .int .i64 c, .slice A xs.length cp], .agg #[.int .i64 code', .int .i64 a', .int .i64 b', .int .i64 c', .slice A' ys.length cp']] w fun e w' => e = .returned (.bool (Rp.same code a b c xs code' a' b' c' ys)) ∧ Below w.heap.size w w' := by
  have M : Aside (Mine w [(w.heap.size + 1, #[.int .i64 code', .int .i64 a', .int .i64 b', .int .i64 c', .slice A' ys.length cp'], 25), (w.heap.size, #[.int .i64 code, .int .i64 a, .int .i64 b, .int .i64 c, .slice A xs.length cp], 25)] ((w.alloc (.cells #[.int .i64 code, .int .i64 a, .int .i64 b, .int .i64 c, .slice A xs.length cp] 25)).alloc (.cells #[.int .i64 code', .int .i64 a', .int .i64 b', .int .i64 c', .slice A' ys.length cp'] 25))) := ⟨by have := ((Mine.start w).alloc #[.int .i64 code, .int .i64 a, .int .i64 b, .int .i64 c, .slice A xs.length cp] 25).alloc #[.int .i64 code', .int .i64 a', .int .i64 b', .int .i64 c', .slice A' ys.length cp'] 25; simpa using this⟩
  have heq := fun W hX hY => equal_any A A' cp cp' xs ys W hX hY lx ly
  have HX := Aside.mk hx
  have HY := Aside.mk hy
  clear hx hy
  cases h1 : (code == code') with
  | false =>
    have HR := Lib.hid (show Rp.same code a b c xs code' a' b' c' ys = false by unfold Rp.same; rw [h1]; rfl)
    go_enter Tryd.func14, Tryd.ntmps14
    go_wp2
    go_ret
    exact ⟨ret_bool HR.out.symm, M.out.low⟩
  | true =>
    cases h2 : same3 a b c a' b' c' with
    | false =>
      have HR := Lib.hid (show Rp.same code a b c xs code' a' b' c' ys = false by unfold Rp.same; rw [h1, h2]; rfl)
      go_enter Tryd.func14, Tryd.ntmps14
      go_wp2
      go_ret
      exact ⟨ret_bool HR.out.symm, M.out.low⟩
    | true =>
      have HR := Lib.hid (show Rp.same code a b c xs code' a' b' c' ys = decide (xs = ys) by unfold Rp.same; rw [h1, h2]; rfl)
      generalize decide (xs = ys) = r at heq HR
      go_enter Tryd.func14, Tryd.ntmps14
      go_wp2_with (go_at_call 35; (with_reducible refine (heq _ (HX.out.next M.out.low) (HY.out.next M.out.low)).mono ?_); rintro e w1 ⟨rfl, hb⟩; replace M := Aside.mk (M.out.next hb); clear hb)
      go_ret
      exact ⟨ret_bool HR.out.symm, M.out.low⟩
def Rp.few (t : List ByteArray) : Bool := decide (t.length ≤ 60) && t.all (fun s => decide (s.size ≤ 1000))
theorem few_any (A : Option Addr) (cp : Nat) (t : List ByteArray) (w : World) (hS : Strs w A t) (hl : t.length ≤ 9223372036854775807) (hs : ∀ s ∈ t, s.size ≤ 9223372036854775807) :
    Calls Tryd.prog 9 #[.slice A t.length cp] w fun e w' => e = .returned (.bool (Rp.few t)) ∧ w' = w := by
  have HS := Aside.mk hS
  have Hs := Aside.mk hs
  clear hS hs
  go_enter Tryd.func9, Tryd.ntmps9
  go_wp2
  go_loopw [3] (fun i wr => ∃ k : Nat, k ≤ t.length ∧ k ≤ 60 ∧ i = .int .i64 k ∧ (t.take k).all (fun s => decide (s.size ≤ 1000)) = true ∧ wr = w) (fun i _ => t.length - (intOf i).toNat)
  case atStart => exact ⟨0, by omega, by omega, rfl, rfl, rfl⟩
  case round =>
    obtain ⟨k, hk, hk60, rfl, hall, rfl⟩ := hrel
    have HA := Lib.hid hall
    clear hall
    by_cases hlt : k < t.length
    · obtain ⟨bb, oo, rfl, hbl, hcell⟩ := HS.out.at k hlt
      have hsz := Hs.out t[k] (List.getElem_mem _)
      have HT := Lib.hid (List.take_succ_eq_append_getElem (l := t) (i := k) hlt)
      have hmem := Aside.mk (List.getElem_mem hlt)
      generalize t[k] = s at hcell hsz HT hmem
      by_cases h60 : (60 : Int) ≤ (k : Int)
      · have HR := Lib.hid (show Rp.few t = false by unfold Rp.few; rw [decide_eq_false (by omega)]; rfl)
        go_wp2
        go_ret
        exact ⟨ret_bool HR.out.symm, rfl⟩
      · by_cases hbig : (1000 : Int) < s.size
        · have HR := Lib.hid (show Rp.few t = false by
            unfold Rp.few
            cases hq : t.all (fun s => decide (s.size ≤ 1000)) with
            | false => simp
            | true => have := List.all_eq_true.1 hq s hmem.out; simp at this; omega)
          go_wp2
          go_ret
          exact ⟨ret_bool HR.out.symm, rfl⟩
        · have HR := Lib.hid (show (t.take (k + 1)).all (fun s => decide (s.size ≤ 1000)) = true by rw [HT.out, List.all_append, HA.out]; simp; omega)
          go_wp2
          go_roundw
          case rel => exact ⟨k + 1, by omega, by omega, by go_num, HR.out, by trivial⟩
          case measure => simp [intOf]; omega
    · have hke : k = t.length := by omega
      subst hke
      have HR := Lib.hid (show Rp.few t = true by unfold Rp.few; have := HA.out; rw [List.take_of_length_le (Nat.le_refl _)] at this; rw [this]; simpa using hk60)
      go_wp2
      go_ret
      exact ⟨ret_bool HR.out.symm, rfl⟩
theorem refSame_any (A A' : Option Addr) (cp cp' : Nat) (xs ys : List ByteArray) (w : World) (hx : Strs w A xs) (hy : Strs w A' ys) (lx : xs.length ≤ 1000000) (ly : ys.length ≤ 1000000) :
    Calls Tryd.prog 16 #[.slice A xs.length cp, .slice A' ys.length cp'] w fun e w' => e = .returned (.bool (decide (xs = ys))) ∧ Below w.heap.size w w' := by
  have HX := Aside.mk hx
  have HY := Aside.mk hy
  clear hx hy
  by_cases hl : xs.length = ys.length
  · obtain ⟨n, hn⟩ : ∃ n, xs.length = n := ⟨_, rfl⟩
    have hn2 : ys.length = n := by omega
    rw [hn, hn2]
    rw [hn] at lx
    have N1_ := Lib.hid hn
    have N2_ := Lib.hid hn2
    clear hn hn2 hl ly
    go_enter Tryd.func16, Tryd.ntmps16
    go_wp2
    go_loopw [5] (fun i wr => ∃ k : Nat, k ≤ n ∧ i = .int .i64 k ∧ xs.take k = ys.take k ∧ Below w.heap.size w wr) (fun i _ => n - (intOf i).toNat)
    case atStart => exact ⟨0, by omega, rfl, rfl, Below.refl _ _⟩
    case round =>
      obtain ⟨k, hk, rfl, htk, hb⟩ := hrel
      have HT := Lib.hid htk
      have HB := Aside.mk hb
      clear htk hb
      by_cases hlt : k < n
      · have hlt1 : k < xs.length := by have := N1_.out; omega
        have hlt' : k < ys.length := by have := N2_.out; omega
        obtain ⟨b1, o1, rfl, _, hc1⟩ := (HX.out.next HB.out).at k hlt1
        obtain ⟨b2, o2, rfl, _, hc2⟩ := (HY.out.next HB.out).at k hlt'
        have T1 := Lib.hid (List.take_succ_eq_append_getElem (l := xs) (i := k) hlt1)
        have T2 := Lib.hid (List.take_succ_eq_append_getElem (l := ys) (i := k) hlt')
        have N1 := Lib.hid (fun e : xs = ys => show xs[k] = ys[k] by subst e; rfl)
        generalize xs[k] = s1 at hc1 T1 N1
        generalize ys[k] = s2 at hc2 T2 N1
        clear hlt1 hlt'
        by_cases hs : s1 = s2
        · subst hs
          have HE := Lib.hid (show xs.take (k + 1) = ys.take (k + 1) by rw [T1.out, T2.out, HT.out])
          go_wp2
          go_region_held3 (fun w' => w'.cell? ⟨b1, o1 + k, none⟩ = some (.string s1) ∧ w'.cell? ⟨b2, o2 + k, none⟩ = some (.string s1) ∧ Below w.heap.size w w') (exact ⟨by go_simp, by go_simp, pw_below_drewN HB.out 1⟩) (fail)
          have HB2 := Aside.mk (‹_ ∧ _ ∧ Below _ _ _›).2.2
          go_wp2
          go_roundw
          case rel => exact ⟨k + 1, by omega, by go_num, HE.out, HB2.out⟩
          case measure => simp [intOf]; omega
        · have hne : (s1.toList == s2.toList) = false := by rw [Go.ByteArray.toList_eq, Go.ByteArray.toList_eq]; simp; intro q; exact hs (ByteArray.ext (by simpa using q))
          have HE := Lib.hid (show decide (xs = ys) = false from decide_eq_false (fun e => hs (N1.out e)))
          clear hs
          go_wp2
          go_region_held3 (fun w' => w'.cell? ⟨b1, o1 + k, none⟩ = some (.string s1) ∧ w'.cell? ⟨b2, o2 + k, none⟩ = some (.string s2) ∧ Below w.heap.size w w') (exact ⟨by go_simp, by go_simp, pw_below_drewN HB.out 1⟩) (fail)
          have HB2 := Aside.mk (‹_ ∧ _ ∧ Below _ _ _›).2.2
          go_wp2
          go_ret
          exact ⟨ret_bool HE.out.symm, HB2.out⟩
      · have hke : k = n := by omega
        have HE := Lib.hid (show decide (xs = ys) = true by have := HT.out; rw [List.take_of_length_le (by have := N1_.out; omega), List.take_of_length_le (by have := N2_.out; omega)] at this; exact decide_eq_true this)
        go_wp2
        go_ret
        exact ⟨ret_bool HE.out.symm, HB.out⟩
  · have hlb : ((xs.length : Int) == (ys.length : Int)) = false := by simp; omega
    have HE := Lib.hid (show decide (xs = ys) = false from decide_eq_false (fun e => hl (by rw [e])))
    go_enter Tryd.func16, Tryd.ntmps16
    go_wp2
    go_ret
    exact ⟨ret_bool HE.out.symm, Below.refl _ _⟩
end Go.Proofs.YtfeedokfcebjjaaDoor
