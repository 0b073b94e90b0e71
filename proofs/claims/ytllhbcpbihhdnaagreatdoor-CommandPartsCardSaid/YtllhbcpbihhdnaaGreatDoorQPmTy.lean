/-
  Walks of the package param: typed.
-/
import Derived.Test.YtllhbcpbihhdnaaGreatDoorQ1
set_option linter.unusedVariables false
set_option linter.unusedSimpArgs false
namespace Go.Proofs.YtllhbcpbihhdnaaGreatDoor
open Go.RowKit
set_option maxRecDepth 100000
namespace Pm
/-- Is a text a type? -/
def typed (l : List UInt8) : Bool := decide (1 ≤ l.length ∧ l.length ≤ 32) && l.all Txt.letter
end Pm
/-- Between two rounds of typed. -/
def TyRel (s : ByteArray) (r0 : Bool) (w : World) (a i : Value) (wr : World) : Prop := ∃ (k : Nat) (b : Bool), k ≤ s.size ∧ i = .int .i64 k ∧ a = .bool b ∧ b = (r0 && (s.data.toList.take k).all Txt.letter) ∧
  (∀ j, j < s.size → wr.cell? ⟨w.heap.size, j, none⟩ = some (.int .u8 (s.data.toList.getD j 0).toNat)) ∧ Below w.heap.size w wr
set_option maxHeartbeats 4000000 in
theorem typed_of (s : ByteArray) (r0 : Bool) (hr : r0 = decide (1 ≤ s.size ∧ s.size ≤ 32)) (w : World) (hs : s.size ≤ 140737488351232) :
    Calls Tryz.prog 58 #[.string s] w fun e w' => e = .returned (.bool (Pm.typed s.data.toList)) ∧ Below w.heap.size w w' := by
  have hds : s.data.toList.length = s.size := by simp
  have kb := fun W => Lib.run_convert_string_bytes (P := Tryz.prog) W 9 40 5 s Tryz.underlying9 Tryz.underlying40 Tryz.underlying5
  have HT0 : Hid (Pm.typed s.data.toList = (r0 && s.data.toList.all Txt.letter)) := Lib.hid (by unfold Pm.typed; rw [hds, hr])
  have HB : Aside (TyRel s r0 w (.bool r0) (.int .i64 0) (Lib.bytesWorld w 5 s)) := ⟨⟨0, r0, by omega, rfl, rfl, by simp, fun j hj => Lib.bytesWorld_cell _ _ _ _ hj, ((Below.refl _ _ : Below w.heap.size w w)).trans ⟨rfl, rfl, rfl, by rw [Lib.bytesWorld_size]; omega, fun k hk => Lib.bytesWorld_at_old w _ s k hk⟩⟩⟩
  rcases (show (1 ≤ s.size ∧ s.size ≤ 32) ∨ s.size < 1 ∨ 32 < s.size by omega) with h | h | h
  · have hr1 : r0 = true := by rw [hr]; exact decide_eq_true h
    have b1 : (1 : Int) ≤ (s.size : Int) := by omega
    have b2 : (s.size : Int) ≤ 32 := by omega
    subst hr1
    clear hr
    go_enter Tryz.func58, Tryz.ntmps58
    go_wp2
    go_loopw [3, 17] (fun a i wr => TyRel s true w a i wr) (fun _ i _ => s.size - (intOf i).toNat)
    case atStart => exact HB.out
    case round =>
      clear HB
      obtain ⟨k, b, hk, rfl, rfl, hb, hc, hlow⟩ := hrel
      have HBv := Lib.hid hb
      have HC := Aside.mk hc
      have HL := Aside.mk hlow
      clear hb hc hlow
      by_cases hlt : k < s.size
      · have hck := HC.out k hlt
        have hg : s.data.toList.getD k 0 = s.data.toList[k] := by rw [List.getD_eq_getElem?_getD, List.getElem?_eq_getElem (by simp; omega)]; rfl
        have HT := Lib.hid (Txt.take_snoc s.data.toList k (by simp; omega))
        rw [hg] at hck
        generalize s.data.toList[k] = c at hck HT
        clear hg
        have hcr := c.toNat_lt
        cases b with
        | false =>
          go_wp2
          go_roundw
          case rel => exact ⟨k + 1, false, by omega, by go_num, rfl, by rw [HT.out, List.all_append, ← Bool.and_assoc, ← HBv.out]; rfl, HC.out, HL.out⟩
          case measure => simp [intOf]; omega
        | true =>
          by_cases hlet : Txt.letter c = true
          · have HLet := Lib.hid hlet
            simp only [Txt.letter, decide_eq_true_eq] at hlet
            have HN : Hid (true = (true && (s.data.toList.take (k + 1)).all Txt.letter)) := Lib.hid (by rw [HT.out, List.all_append, ← Bool.and_assoc, ← HBv.out]; simp [HLet.out])
            rcases hlet with hlet | hlet | hlet
            all_goals
              obtain ⟨d1, d2⟩ := hlet
              go_wp2
              all_goals
                go_roundw
                case measure => simp [intOf]; omega
                case rel => exact ⟨k + 1, true, by omega, by go_num, by first | rfl | (simp; done) | (simp; omega), HN.out, HC.out, HL.out⟩
          · have HLet : Hid (Txt.letter c = false) := Lib.hid (by simpa using hlet)
            simp only [Txt.letter, decide_eq_true_eq] at hlet
            have HN : Hid (false = (true && (s.data.toList.take (k + 1)).all Txt.letter)) := Lib.hid (by rw [HT.out, List.all_append, ← Bool.and_assoc, ← HBv.out]; simp [HLet.out])
            go_wp2
            all_goals
              go_roundw
              case measure => simp [intOf]; omega
              case rel => exact ⟨k + 1, false, by omega, by go_num, by first | rfl | (simp; done) | (simp; omega), HN.out, HC.out, HL.out⟩
      · have hke : k = s.size := by omega
        subst hke
        go_wp2
        go_ret
        refine ⟨ret_bool ?_, HL.out⟩
        rw [HT0.out, HBv.out, List.take_of_length_le (by omega)]
  · have hr1 : r0 = false := by rw [hr]; exact decide_eq_false (by omega)
    have b1 : ¬ (1 : Int) ≤ (s.size : Int) := by omega
    subst hr1
    clear hr
    go_enter Tryz.func58, Tryz.ntmps58
    go_wp2
    go_loopw [3, 17] (fun a i wr => TyRel s false w a i wr) (fun _ i _ => s.size - (intOf i).toNat)
    case atStart => exact HB.out
    case round =>
      clear HB
      obtain ⟨k, b, hk, rfl, rfl, hb, hc, hlow⟩ := hrel
      have HBv := Lib.hid hb
      have HC := Aside.mk hc
      have HL := Aside.mk hlow
      clear hb hc hlow
      by_cases hlt : k < s.size
      · have hck := HC.out k hlt
        have hg : s.data.toList.getD k 0 = s.data.toList[k] := by rw [List.getD_eq_getElem?_getD, List.getElem?_eq_getElem (by simp; omega)]; rfl
        have HT := Lib.hid (Txt.take_snoc s.data.toList k (by simp; omega))
        rw [hg] at hck
        generalize s.data.toList[k] = c at hck HT
        clear hg
        have hcr := c.toNat_lt
        cases b with
        | false =>
          go_wp2
          go_roundw
          case rel => exact ⟨k + 1, false, by omega, by go_num, rfl, by rw [HT.out, List.all_append, ← Bool.and_assoc, ← HBv.out]; rfl, HC.out, HL.out⟩
          case measure => simp [intOf]; omega
        | true =>
          by_cases hlet : Txt.letter c = true
          · have HLet := Lib.hid hlet
            simp only [Txt.letter, decide_eq_true_eq] at hlet
            have HN : Hid (true = (false && (s.data.toList.take (k + 1)).all Txt.letter)) := Lib.hid (by rw [HT.out, List.all_append, ← Bool.and_assoc, ← HBv.out]; simp [HLet.out])
            rcases hlet with hlet | hlet | hlet
            all_goals
              obtain ⟨d1, d2⟩ := hlet
              go_wp2
              all_goals
                go_roundw
                case measure => simp [intOf]; omega
                case rel => exact ⟨k + 1, true, by omega, by go_num, by first | rfl | (simp; done) | (simp; omega), HN.out, HC.out, HL.out⟩
          · have HLet : Hid (Txt.letter c = false) := Lib.hid (by simpa using hlet)
            simp only [Txt.letter, decide_eq_true_eq] at hlet
            have HN : Hid (false = (false && (s.data.toList.take (k + 1)).all Txt.letter)) := Lib.hid (by rw [HT.out, List.all_append, ← Bool.and_assoc, ← HBv.out]; simp [HLet.out])
            go_wp2
            all_goals
              go_roundw
              case measure => simp [intOf]; omega
              case rel => exact ⟨k + 1, false, by omega, by go_num, by first | rfl | (simp; done) | (simp; omega), HN.out, HC.out, HL.out⟩
      · have hke : k = s.size := by omega
        subst hke
        go_wp2
        go_ret
        refine ⟨ret_bool ?_, HL.out⟩
        rw [HT0.out, HBv.out, List.take_of_length_le (by omega)]
  · have hr1 : r0 = false := by rw [hr]; exact decide_eq_false (by omega)
    have b1 : (1 : Int) ≤ (s.size : Int) := by omega
    have b2 : ¬ (s.size : Int) ≤ 32 := by omega
    subst hr1
    clear hr
    go_enter Tryz.func58, Tryz.ntmps58
    go_wp2
    go_loopw [3, 17] (fun a i wr => TyRel s false w a i wr) (fun _ i _ => s.size - (intOf i).toNat)
    case atStart => exact HB.out
    case round =>
      clear HB
      obtain ⟨k, b, hk, rfl, rfl, hb, hc, hlow⟩ := hrel
      have HBv := Lib.hid hb
      have HC := Aside.mk hc
      have HL := Aside.mk hlow
      clear hb hc hlow
      by_cases hlt : k < s.size
      · have hck := HC.out k hlt
        have hg : s.data.toList.getD k 0 = s.data.toList[k] := by rw [List.getD_eq_getElem?_getD, List.getElem?_eq_getElem (by simp; omega)]; rfl
        have HT := Lib.hid (Txt.take_snoc s.data.toList k (by simp; omega))
        rw [hg] at hck
        generalize s.data.toList[k] = c at hck HT
        clear hg
        have hcr := c.toNat_lt
        cases b with
        | false =>
          go_wp2
          go_roundw
          case rel => exact ⟨k + 1, false, by omega, by go_num, rfl, by rw [HT.out, List.all_append, ← Bool.and_assoc, ← HBv.out]; rfl, HC.out, HL.out⟩
          case measure => simp [intOf]; omega
        | true =>
          by_cases hlet : Txt.letter c = true
          · have HLet := Lib.hid hlet
            simp only [Txt.letter, decide_eq_true_eq] at hlet
            have HN : Hid (true = (false && (s.data.toList.take (k + 1)).all Txt.letter)) := Lib.hid (by rw [HT.out, List.all_append, ← Bool.and_assoc, ← HBv.out]; simp [HLet.out])
            rcases hlet with hlet | hlet | hlet
            all_goals
              obtain ⟨d1, d2⟩ := hlet
              go_wp2
              all_goals
                go_roundw
                case measure => simp [intOf]; omega
                case rel => exact ⟨k + 1, true, by omega, by go_num, by first | rfl | (simp; done) | (simp; omega), HN.out, HC.out, HL.out⟩
          · have HLet : Hid (Txt.letter c = false) := Lib.hid (by simpa using hlet)
            simp only [Txt.letter, decide_eq_true_eq] at hlet
            have HN : Hid (false = (false && (s.data.toList.take (k + 1)).all Txt.letter)) := Lib.hid (by rw [HT.out, List.all_append, ← Bool.and_assoc, ← HBv.out]; simp [HLet.out])
            go_wp2
            all_goals
              go_roundw
              case measure => simp [intOf]; omega
              case rel => exact ⟨k + 1, false, by omega, by go_num, by first | rfl | (simp; done) | (simp; omega), HN.out, HC.out, HL.out⟩
      · have hke : k = s.size := by omega
        subst hke
        go_wp2
        go_ret
        refine ⟨ret_bool ?_, HL.out⟩
        rw [HT0.out, HBv.out, List.take_of_length_le (by omega)]
theorem typed_any (s : ByteArray) (w : World) (hs : s.size ≤ 140737488351232) : Calls Tryz.prog 58 #[.string s] w fun e w' => e = .returned (.bool (Pm.typed s.data.toList)) ∧ Below w.heap.size w w' := typed_of s _ rfl w hs
end Go.Proofs.YtllhbcpbihhdnaaGreatDoor
