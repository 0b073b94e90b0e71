/-
  Walks of the package reply: shown.
-/
import Derived.Test.YtfeedokfcebjjaaDoorEnv
import Derived.Test.YtfeedokfcebjjaaDoorRpCal
import Derived.IntWalk
import Derived.Outline
set_option linter.unusedVariables false
set_option linter.unusedSimpArgs false
namespace Go.Proofs.YtfeedokfcebjjaaDoor
open Go.RowKit
set_option maxRecDepth 100000
theorem vis_no {c : UInt8} (h : ¬ (32 ≤ c.toNat ∧ c.toNat ≤ 126)) : Rp.vis c = false := decide_eq_false h
theorem vis_yes {c : UInt8} (h : 32 ≤ c.toNat ∧ c.toNat ≤ 126) : Rp.vis c = true := decide_eq_true h
theorem shown1_yes (c : UInt8) (h : Rp.vis c = true) (w : World) : Calls Tryd.prog 50 #[.int .u8 c.toNat] w fun e w' => e = .returned (.bool false) ∧ w' = w := by
  obtain ⟨h1, h2⟩ := of_decide_eq_true h
  clear h
  go_enter Tryd.func50, Tryd.ntmps50
  go_wp2
  go_ret
  exact ⟨ret_bool (by simp; omega), rfl⟩
theorem shown1_no (c : UInt8) (h : Rp.vis c = false) (w : World) : Calls Tryd.prog 50 #[.int .u8 c.toNat] w fun e w' => e = .returned (.bool true) ∧ w' = w := by
  have h' : ¬ (32 ≤ c.toNat ∧ c.toNat ≤ 126) := of_decide_eq_false h
  clear h
  rcases (show c.toNat < 32 ∨ (32 ≤ c.toNat ∧ 126 < c.toNat) by omega) with h | ⟨h0, h⟩
  all_goals
    clear h'
    go_enter Tryd.func50, Tryd.ntmps50
    go_wp2
    go_ret
    exact ⟨ret_bool (by first | (simp; done) | (simp; omega)), rfl⟩
set_option maxHeartbeats 1000000 in
theorem idx_any (b : Nat) (s : ByteArray) (cp : Nat) (w : World) (hs : s.size ≤ 140737488351232) (hc : Aside (∀ j, j < s.size → w.cell? ⟨b, j, none⟩ = some (.int .u8 (s.data.toList.getD j 0).toNat))) :
    Calls Tryd.prog 65 #[.slice (some ⟨b, 0, none⟩) s.size cp, .func (.func 50) #[] #[]] w fun e w' => (∃ r : Int, e = .returned (.int .i64 r) ∧ decide (0 ≤ r) = !Rp.shown s.data.toList) ∧ w' = w := by
  have hds : s.data.toList.length = s.size := by simp
  have HD := Lib.hid hds
  clear hds
  go_enter Tryd.func65, Tryd.ntmps65
  go_wp2
  go_loop [8] (fun i => ∃ k : Nat, k ≤ s.size ∧ i = .int .i64 k ∧ Aside ((s.data.toList.take k).all Rp.vis = true)) (fun i => s.size - (intOf i).toNat)
  case atStart => exact ⟨0, by omega, rfl, ⟨by simp⟩⟩
  case round =>
    obtain ⟨k, hk, rfl, HR⟩ := hrel
    by_cases hlt : k < s.size
    · have hck := hc.out k hlt
      have hg : s.data.toList.getD k 0 = s.data.toList[k]'(by rw [HD.out]; exact hlt) := by rw [List.getD_eq_getElem?_getD, List.getElem?_eq_getElem (by rw [HD.out]; exact hlt)]; rfl
      have HT := Lib.hid (List.take_succ_eq_append_getElem (l := s.data.toList) (i := k) (by rw [HD.out]; exact hlt))
      have hm : s.data.toList[k]'(by rw [HD.out]; exact hlt) ∈ s.data.toList := List.getElem_mem _
      rw [hg] at hck
      generalize s.data.toList[k]'(by rw [HD.out]; exact hlt) = c at hck HT hm
      have HM := Lib.hid hm
      clear hm hg
      by_cases hv : Rp.vis c = true
      · have HV := Lib.hid hv
        clear hv
        go_wp2_with ((go_at_call 50; (with_reducible refine (shown1_yes c HV.out _).mono ?_); rintro e w' ⟨rfl, rfl⟩))
        go_round
        case rel => exact ⟨k + 1, by omega, by go_num, ⟨by rw [HT.out, List.all_append, HR.out]; simp [HV.out]⟩⟩
        case measure => simp [intOf]; omega
      · have hv' : Rp.vis c = false := by simpa using hv
        have HV := Lib.hid hv'
        clear hv hv'
        go_wp2_with ((go_at_call 50; (with_reducible refine (shown1_no c HV.out _).mono ?_); rintro e w' ⟨rfl, rfl⟩))
        go_ret
        refine ⟨⟨k, rfl, ?_⟩, rfl⟩
        have : Rp.shown s.data.toList = false := by
          cases hx : Rp.shown s.data.toList with
          | false => rfl
          | true => have := List.all_eq_true.1 hx c HM.out; rw [HV.out] at this; cases this
        rw [this]
        simp
    · have hke : k = s.size := by omega
      subst hke
      go_wp2
      go_ret
      refine ⟨⟨-1, rfl, ?_⟩, rfl⟩
      have := HR.out
      rw [List.take_of_length_le (by rw [HD.out]; omega)] at this
      rw [show Rp.shown s.data.toList = true from this]
      rfl
set_option maxHeartbeats 1000000 in
theorem has_any (b : Nat) (s : ByteArray) (cp : Nat) (w : World) (hs : s.size ≤ 140737488351232) (hc : Aside (∀ j, j < s.size → w.cell? ⟨b, j, none⟩ = some (.int .u8 (s.data.toList.getD j 0).toNat))) :
    Calls Tryd.prog 49 #[.slice (some ⟨b, 0, none⟩) s.size cp, .func (.func 50) #[] #[]] w fun e w' => e = .returned (.bool (!Rp.shown s.data.toList)) ∧ w' = w := by
  go_enter Tryd.func49, Tryd.ntmps49
  go_wp2_with ((go_at_call 65; refine (idx_any _ _ _ _ hs hc).mono ?_; rintro e w' ⟨⟨r, rfl, hr⟩, rfl⟩; have HR := Lib.hid hr; clear hr))
  go_ret
  exact ⟨ret_bool HR.out, rfl⟩
set_option maxHeartbeats 1000000 in
theorem shown_any (s : ByteArray) (w : World) (hs : s.size ≤ 140737488351232) :
    Calls Tryd.prog 26 #[.string s] w fun e w' => e = .returned (.bool (Rp.shown s.data.toList)) ∧ Below w.heap.size w w' := by
  have kb := fun W => Lib.run_convert_string_bytes (P := Tryd.prog) W 9 76 5 s Tryd.underlying9 Tryd.underlying76 Tryd.underlying5
  have hcell := Aside.mk (fun j (hj : j < s.size) => Lib.bytesWorld_cell w 5 s j hj)
  have hb : Below w.heap.size w (Lib.bytesWorld w 5 s) := ⟨rfl, rfl, rfl, by rw [Lib.bytesWorld_size]; omega, fun k hk => Lib.bytesWorld_at_old w _ s k hk⟩
  go_enter Tryd.func26, Tryd.ntmps26
  go_wp2_with ((go_at_call 49; refine (has_any _ s _ _ hs hcell).mono ?_; rintro e w' ⟨rfl, rfl⟩))
  go_ret
  exact ⟨ret_bool (by simp), hb⟩
end Go.Proofs.YtfeedokfcebjjaaDoor
