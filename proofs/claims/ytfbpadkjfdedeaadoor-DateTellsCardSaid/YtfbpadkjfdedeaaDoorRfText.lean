/-
  Lemmas on the way to DateTells (RfText): the reference's reading of signs.
-/
import Derived.Test.YtfbpadkjfdedeaaDoorDtLen
import Derived.IntWalk
set_option linter.unusedVariables false
set_option linter.unusedSimpArgs false
namespace DtCal
/-- A sign where the pattern has 0 is a digit; else it is the pattern's. -/
def okc (c l : UInt8) : Bool := if l = 48 then digit c else c == l
def shp : List UInt8 → List UInt8 → Bool
  | [], [] => true
  | c :: s, l :: ls => okc c l && shp s ls
  | _, _ => false
theorem shp_nil (s : List UInt8) : shp s [] = true ↔ s = [] := by cases s <;> simp [shp]
theorem shp_cons (s : List UInt8) (l : UInt8) (ls : List UInt8) : shp s (l :: ls) = true ↔ ∃ c t, s = c :: t ∧ okc c l = true ∧ shp t ls = true := by
  cases s with
  | nil => simp [shp]
  | cons c t =>
    simp only [shp, Bool.and_eq_true, List.cons.injEq]
    exact ⟨fun ⟨a, b⟩ => ⟨c, t, ⟨rfl, rfl⟩, a, b⟩, fun ⟨_, _, ⟨h1, h2⟩, a, b⟩ => by subst h1; subst h2; exact ⟨a, b⟩⟩
theorem shp_len (s l : List UInt8) (h : shp s l = true) : s.length = l.length := by
  induction l generalizing s with
  | nil => rw [shp_nil] at h; rw [h]
  | cons a l ih =>
    obtain ⟨c, t, rfl, -, h⟩ := (shp_cons _ _ _).1 h
    simp [ih t h]
theorem shp_all (s l : List UInt8) (hl : s.length = l.length) : shp s l = true ↔ ∀ i : Nat, ∀ h : i < s.length, okc (s[i]'h) (l[i]'(hl ▸ h)) = true := by
  induction l generalizing s with
  | nil => cases s with
    | nil => simp [shp]
    | cons c t => simp at hl
  | cons a l ih => cases s with
    | nil => simp at hl
    | cons c t =>
      have hl' : t.length = l.length := by simpa using hl
      simp only [shp, Bool.and_eq_true, ih t hl']
      constructor
      · rintro ⟨h0, h1⟩ i hi
        cases i with
        | zero => exact h0
        | succ i => exact h1 i (by simpa using hi)
      · intro h
        exact ⟨h 0 (by simp), fun i hi => h (i + 1) (by simpa using hi)⟩
end DtCal

namespace Go.Proofs.YtfbpadkjfdedeaaDoor
open Go.RowKit
set_option maxRecDepth 100000
theorem at_list (s : ByteArray) (k : Nat) (h : k < s.size) : s.data.toList[k]'(by simpa using h) = s[k] := rfl
set_option maxHeartbeats 2000000 in
theorem rf_shape (s like : ByteArray) (w : World) (hs : s.size ≤ 140737488351232) (hl : like.size ≤ 140737488351232) :
    Calls Tryd.prog 28 #[.string s, .string like] w fun e w' => e = .returned (.bool (DtCal.shp s.data.toList like.data.toList)) ∧ Below w.heap.size w w' := by
  by_cases hsz : s.size = like.size
  · have HA : Hid (DtCal.shp s.data.toList like.data.toList = true ↔ ∀ i : Nat, ∀ h : i < s.size, DtCal.okc s[i] (like[i]'(hsz ▸ h)) = true) := by
      have := DtCal.shp_all s.data.toList like.data.toList (by simpa using hsz)
      refine Lib.hid (this.trans ⟨fun h i hi => h i (by simpa using hi), fun h i hi => h i (by simpa using hi)⟩)
    go_enter Tryd.func28, Tryd.ntmps28
    go_wp2
    go_loopw [5] (fun i wr => ∃ k : Nat, k ≤ s.size ∧ i = .int .i64 k ∧ Below w.heap.size w wr ∧ Aside (∀ j : Nat, ∀ hj : j < s.size, j < k → DtCal.okc s[j] (like[j]'(hsz ▸ hj)) = true)) (fun i _ => s.size - (intOf i).toNat)
    case atStart => exact ⟨0, Nat.zero_le _, rfl, Below.refl _ _, ⟨fun j _ h => by omega⟩⟩
    case round =>
      obtain ⟨k, hk, rfl, hbw, HR⟩ := hrel
      by_cases hlt : k < s.size
      · have hlt2 : k < like.size := by omega
        have HN : Hid (DtCal.okc s[k] like[k] = true → ∀ j : Nat, ∀ hj : j < s.size, j < k + 1 → DtCal.okc s[j] (like[j]'(hsz ▸ hj)) = true) := Lib.hid fun h j hj hjk => by
          by_cases e : j = k
          · subst e; exact h
          · exact HR.out j hj (by omega)
        have HF : Hid (DtCal.okc s[k] like[k] = false → DtCal.shp s.data.toList like.data.toList = false) := Lib.hid fun h => by
          cases hx : DtCal.shp s.data.toList like.data.toList with
          | false => rfl
          | true => have := HA.out.1 hx k hlt; rw [h] at this; cases this
        clear HR
        have hcr := s[k].toNat_lt
        have hlr := like[k].toNat_lt
        have HC : ∀ x : UInt8, x.toNat = 48 → x = 48 := fun x h => UInt8.toNat_inj.1 h
        by_cases h48 : like[k].toNat = 48
        · have HL := Lib.hid (HC _ h48)
          by_cases hd : DtCal.digit s[k] = true
          · have hd' : 48 ≤ s[k].toNat ∧ s[k].toNat ≤ 57 := by simpa [DtCal.digit] using hd
            obtain ⟨d1, d2⟩ := hd'
            have HN2 := Lib.hid (HN.out (by unfold DtCal.okc; rw [if_pos HL.out]; exact hd))
            clear hd HN HF HC
            go_wp2
            all_goals
              go_roundw
              case rel => exact ⟨k + 1, by omega, by go_num, by first | exact hbw | exact pw_below_drewN hbw _, ⟨HN2.out⟩⟩
              case measure => simp [intOf]; omega
          · have hd' : ¬ (48 ≤ s[k].toNat ∧ s[k].toNat ≤ 57) := by simpa [DtCal.digit] using hd
            have HF2 := Lib.hid (HF.out (by unfold DtCal.okc; rw [if_pos HL.out]; simpa using hd))
            clear hd HN HF HC
            by_cases d1 : s[k].toNat < 48
            · go_wp2
              all_goals
                go_ret
                exact ⟨ret_bool HF2.out.symm, by first | exact hbw | exact pw_below_drewN hbw _⟩
            · have d2 : 57 < s[k].toNat := by omega
              clear hd'
              go_wp2
              all_goals
                go_ret
                exact ⟨ret_bool HF2.out.symm, by first | exact hbw | exact pw_below_drewN hbw _⟩
        · have hl48 : like[k] ≠ 48 := fun h => h48 (by rw [h]; rfl)
          by_cases he : s[k].toNat = like[k].toNat
          · have HN2 := Lib.hid (HN.out (by unfold DtCal.okc; rw [if_neg hl48, UInt8.toNat_inj.1 he]; simp))
            clear HN HF HC
            go_wp2
            go_quiet (fail)
            go_wp2
            all_goals
              go_roundw
              case rel => exact ⟨k + 1, by omega, by go_num, by first | exact hbw | exact pw_below_drewN hbw _, ⟨HN2.out⟩⟩
              case measure => simp [intOf]; omega
          · have HF2 := Lib.hid (HF.out (by unfold DtCal.okc; rw [if_neg hl48]; simp; exact fun h => he (by rw [h])))
            clear HN HF HC
            go_wp2
            go_quiet (fail)
            go_wp2
            all_goals
              go_ret
              exact ⟨ret_bool HF2.out.symm, by first | exact hbw | exact pw_below_drewN hbw _⟩
      · go_wp2
        go_ret
        exact ⟨ret_bool (HA.out.2 fun i hi => HR.out i hi (by omega)).symm, hbw⟩
  · have HF : DtCal.shp s.data.toList like.data.toList = false := by
      cases hx : DtCal.shp s.data.toList like.data.toList with
      | false => rfl
      | true => exact absurd (by simpa using DtCal.shp_len _ _ hx) hsz
    rw [HF]
    go_enter Tryd.func28, Tryd.ntmps28
    go_wp2
    go_ret
    exact ⟨rfl, Below.refl _ _⟩
set_option maxHeartbeats 2000000 in
theorem rf_number (s : ByteArray) (w : World) (hs : s.size ≤ 4) (hd : s.data.toList.all DtCal.digit = true) :
    Calls Tryd.prog 29 #[.string s] w fun e w' => e = .returned (.int .i64 (DtCal.dec s.data.toList)) ∧ w' = w := by
  have HD := Lib.hid hd
  go_enter Tryd.func29, Tryd.ntmps29
  go_wp2
  go_loop [3, 4] (fun n i => ∃ k : Nat, k ≤ s.size ∧ i = .int .i64 k ∧ n = .int .i64 (DtCal.dec (s.data.toList.take k))) (fun _ i => s.size - (intOf i).toNat)
  case atStart => exact ⟨0, Nat.zero_le _, rfl, rfl⟩
  case round =>
    obtain ⟨k, hk, rfl, rfl⟩ := hrel
    have hb := DtCal.dec_bound (s.data.toList.take k) (by simp; omega)
    obtain ⟨hb1, hb2⟩ := hb
    by_cases hlt : k < s.size
    · have HT := Lib.hid (DtCal.take_snoc s.data.toList k (by simpa using hlt))
      have hc : DtCal.digit s[k] = true := List.all_eq_true.1 HD.out _ (by rw [← at_list s k hlt]; exact List.getElem_mem _)
      have hd' : 48 ≤ s[k].toNat ∧ s[k].toNat ≤ 57 := by simpa [DtCal.digit] using hc
      obtain ⟨d1, d2⟩ := hd'
      have HC := Lib.hid (DtCal.dec_snoc (s.data.toList.take k) s[k])
      clear hc
      rw [at_list s k hlt] at HT
      go_wp2
      all_goals
        go_round
        case rel => exact ⟨k + 1, by omega, by go_num, by rw [HT.out, HC.out]; congr 1; omega⟩
        case measure => simp [intOf]; omega
    · go_wp2
      go_ret
      exact ⟨ret_int (by rw [List.take_of_length_le (by simp; omega)]), rfl⟩
end Go.Proofs.YtfbpadkjfdedeaaDoor
