/-
  Walks of the package reply: the reference's shown, code.
-/
import Derived.Test.YtfeedokfcebjjaaDoorRrA
import Derived.Test.YtfeedokfcebjjaaDoorRpLine
import Derived.Test.YtfeedokfcebjjaaDoorMem3
import Derived.IntWalk
set_option linter.unusedVariables false
set_option linter.unusedSimpArgs false
namespace Go.Proofs.YtfeedokfcebjjaaDoor
open Go.RowKit
set_option maxRecDepth 100000
attribute [local go_sem] equal3
theorem at_list (s : ByteArray) (k : Nat) (h : k < s.size) (x : UInt8) (hx : s[k]'h = x) : s.data.toList[k]'(by simpa using h) = x := by rw [← hx]; rfl
set_option maxHeartbeats 4000000 in
theorem rshown_any (s : ByteArray) (w : World) (hs : s.size ≤ 1000000000) : Calls Tryd.prog 29 #[.string s] w fun e w' => e = .returned (.bool (Rp.shown s.data.toList)) ∧ w' = w := by
  have hl : s.data.toList.length = s.size := by simp
  go_enter Tryd.func29, Tryd.ntmps29
  go_wp2
  go_loopw [3] (fun i wr => ∃ k : Nat, k ≤ s.size ∧ i = .int .i64 k ∧ (s.data.toList.take k).all Rp.vis = true ∧ wr = w) (fun i _ => s.size - (intOf i).toNat)
  case atStart => exact ⟨0, by omega, rfl, rfl, rfl⟩
  case round =>
    obtain ⟨k, hk, rfl, hall, rfl⟩ := hrel
    have HA := Lib.hid hall
    clear hall
    by_cases hlt : k < s.size
    · obtain ⟨x, hx⟩ : ∃ x, s[k]'hlt = x := ⟨_, rfl⟩
      have hxl := at_list s k hlt x hx
      have HT := Lib.hid (List.take_succ_eq_append_getElem (l := s.data.toList) (i := k) (by omega))
      have bad : Rp.vis x = false → Hid (Rp.shown s.data.toList = false) := fun hv => Lib.hid (by
        unfold Rp.shown
        cases hq : s.data.toList.all Rp.vis with
        | false => rfl
        | true => have := List.all_eq_true.1 hq x (hxl ▸ List.getElem_mem _); rw [this] at hv; cases hv)
      by_cases h1 : (x.toNat : Int) < 32
      · have HR := bad (by simp [Rp.vis]; omega)
        clear bad
        go_wp2
        go_ret
        exact ⟨ret_bool HR.out.symm, rfl⟩
      · by_cases h2 : (126 : Int) < (x.toNat : Int)
        · have HR := bad (by simp [Rp.vis]; omega)
          clear bad
          go_wp2
          go_ret
          exact ⟨ret_bool HR.out.symm, rfl⟩
        · have HR := Lib.hid (show (s.data.toList.take (k + 1)).all Rp.vis = true by rw [HT.out, List.all_append, HA.out, hxl]; simp [Rp.vis]; omega)
          clear bad
          go_wp2
          go_roundw
          case rel => exact ⟨k + 1, by omega, by go_num, HR.out, by trivial⟩
          case measure => simp [intOf]; omega
    · have HR := Lib.hid (show Rp.shown s.data.toList = true by have := HA.out; rw [List.take_of_length_le (by omega)] at this; exact this)
      go_wp2
      go_ret
      exact ⟨ret_bool HR.out.symm, rfl⟩
set_option maxHeartbeats 4000000 in
theorem rcode_any (s : ByteArray) (w : World) (hs : s.size ≤ 1000000000) : Calls Tryd.prog 28 #[.string s] w fun e w' => e = .returned (.int .i64 (Rp.code s.data.toList)) ∧ w' = w := by
  have hl : s.data.toList.length = s.size := by simp
  by_cases h3 : s.size < 3
  · have HR := Lib.hid (Rp.code_short (s := s.data.toList) (by omega))
    go_enter Tryd.func28, Tryd.ntmps28
    go_wp2
    go_ret
    exact ⟨ret_int HR.out.symm, rfl⟩
  obtain ⟨x, y, z, r, hxyz⟩ : ∃ x y z r, s.data.toList = x :: y :: z :: r := by
    match hx : s.data.toList, (by omega : 3 ≤ s.data.toList.length) with
    | x :: y :: z :: r, _ => exact ⟨x, y, z, r, rfl⟩
  have g0 : s.data[0]? = some x := by have h4 : s.data.toList[0]? = some x := (by rw [hxyz]; rfl); simpa using h4
  have g1 : s.data[1]? = some y := by have h4 : s.data.toList[1]? = some y := (by rw [hxyz]; rfl); simpa using h4
  have g2 : s.data[2]? = some z := by have h4 : s.data.toList[2]? = some z := (by rw [hxyz]; rfl); simpa using h4
  have e0 : s[0]'(by omega) = x := (Array.getElem?_eq_some_iff.1 g0).2
  have e1 : s[1]'(by omega) = y := (Array.getElem?_eq_some_iff.1 g1).2
  have e2 : s[2]'(by omega) = z := (Array.getElem?_eq_some_iff.1 g2).2
  clear g0 g1 g2
  have bad : (Rp.dgt x && Rp.dgt y && Rp.dgt z) = false → Hid (Rp.code s.data.toList = 0) := fun hv => Lib.hid (by rw [hxyz]; show (if (Rp.dgt x && Rp.dgt y && Rp.dgt z) = true then _ else (0 : Int)) = 0; rw [hv]; rfl)
  have GOOD : Hid ((Rp.dgt x && Rp.dgt y && Rp.dgt z) = true → Rp.code s.data.toList = Rp.val3 x y z) := Lib.hid (fun hv => by rw [hxyz]; show (if (Rp.dgt x && Rp.dgt y && Rp.dgt z) = true then _ else _) = _; rw [hv]; rfl)
  clear hxyz
  go_enter Tryd.func28, Tryd.ntmps28
  go_wp2
  go_loopw [3, 4] (fun n i wr => (i = .int .i64 0 ∧ n = .int .i64 0 ∧ wr = w) ∨ (i = .int .i64 1 ∧ n = .int .i64 ((x.toNat : Int) - 48) ∧ (48 ≤ (x.toNat : Int) ∧ (x.toNat : Int) ≤ 57) ∧ wr = w) ∨
    (i = .int .i64 2 ∧ n = .int .i64 (10 * ((x.toNat : Int) - 48) + ((y.toNat : Int) - 48)) ∧ (48 ≤ (x.toNat : Int) ∧ (x.toNat : Int) ≤ 57) ∧ (48 ≤ (y.toNat : Int) ∧ (y.toNat : Int) ≤ 57) ∧ wr = w) ∨
    (i = .int .i64 3 ∧ n = .int .i64 (100 * ((x.toNat : Int) - 48) + 10 * ((y.toNat : Int) - 48) + ((z.toNat : Int) - 48)) ∧ (48 ≤ (x.toNat : Int) ∧ (x.toNat : Int) ≤ 57) ∧ (48 ≤ (y.toNat : Int) ∧ (y.toNat : Int) ≤ 57) ∧ (48 ≤ (z.toNat : Int) ∧ (z.toNat : Int) ≤ 57) ∧ wr = w)) (fun _ i _ => 3 - (intOf i).toNat)
  case atStart => exact .inl ⟨rfl, rfl, rfl⟩
  case round =>
    rcases hrel with hrel | hrel | hrel | hrel
    · obtain ⟨rfl, rfl, rfl⟩ := hrel
      by_cases h1 : (x.toNat : Int) < 48
      · have HR := bad (by simp [Rp.dgt]; omega)
        clear bad
        go_wp2
        go_ret
        exact ⟨ret_int HR.out.symm, rfl⟩
      · by_cases h2 : (57 : Int) < (x.toNat : Int)
        · have HR := bad (by simp [Rp.dgt]; omega)
          clear bad
          go_wp2
          go_ret
          exact ⟨ret_int HR.out.symm, rfl⟩
        · clear bad
          go_wp2
          go_roundw
          case rel => exact .inr (.inl ⟨by go_num, by go_num, by omega, by trivial⟩)
          case measure => simp [intOf]
    · obtain ⟨rfl, rfl, dx, rfl⟩ := hrel
      by_cases h1 : (y.toNat : Int) < 48
      · have HR := bad (by simp [Rp.dgt]; omega)
        clear bad
        go_wp2
        go_ret
        exact ⟨ret_int HR.out.symm, rfl⟩
      · by_cases h2 : (57 : Int) < (y.toNat : Int)
        · have HR := bad (by simp [Rp.dgt]; omega)
          clear bad
          go_wp2
          go_ret
          exact ⟨ret_int HR.out.symm, rfl⟩
        · clear bad
          go_wp2
          go_roundw
          case rel => exact .inr (.inr (.inl ⟨by go_num, by go_num, by omega, by omega, by trivial⟩))
          case measure => simp [intOf]
    · obtain ⟨rfl, rfl, dx, dy, rfl⟩ := hrel
      by_cases h1 : (z.toNat : Int) < 48
      · have HR := bad (by simp [Rp.dgt]; omega)
        clear bad
        go_wp2
        go_ret
        exact ⟨ret_int HR.out.symm, rfl⟩
      · by_cases h2 : (57 : Int) < (z.toNat : Int)
        · have HR := bad (by simp [Rp.dgt]; omega)
          clear bad
          go_wp2
          go_ret
          exact ⟨ret_int HR.out.symm, rfl⟩
        · clear bad
          go_wp2
          go_roundw
          case rel => exact .inr (.inr (.inr ⟨by go_num, by go_num, by omega, by omega, by omega, by trivial⟩))
          case measure => simp [intOf]
    · obtain ⟨rfl, rfl, dx, dy, dz, rfl⟩ := hrel
      have HR := Lib.hid (GOOD.out (by simp [Rp.dgt]; omega))
      clear bad GOOD
      go_wp2
      go_ret
      exact ⟨ret_int (by rw [HR.out]; rfl), rfl⟩
end Go.Proofs.YtfeedokfcebjjaaDoor
