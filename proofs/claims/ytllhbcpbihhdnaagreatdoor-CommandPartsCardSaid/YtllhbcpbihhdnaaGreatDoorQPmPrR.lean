/-
  Walks of the package param: PrintRcpt.
-/
import Derived.Test.YtllhbcpbihhdnaaGreatDoorQ3
import Derived.Test.YtllhbcpbihhdnaaGreatDoorQ1
import Derived.Test.YtllhbcpbihhdnaaGreatDoorQPmPrM
set_option linter.unusedVariables false
set_option linter.unusedSimpArgs false
namespace Go.Proofs.YtllhbcpbihhdnaaGreatDoor
open Go.RowKit Pm
set_option maxRecDepth 100000
namespace Pm
def hasB (s : ByteArray) (c : UInt8) : Bool := decide (0 ≤ Lib.indexByte s.data.toList c)
/-- The names of notices, behind so many of them. -/
def nameZ (nt : ByteArray) : List ByteArray := if nt.toList == [78] then [nNev] else []
def nameK (nt : ByteArray) : Nat → List ByteArray
  | 0 => nameZ nt
  | 1 => nameZ nt ++ (if hasB nt 83 then [nSuc] else [])
  | 2 => nameZ nt ++ (if hasB nt 83 then [nSuc] else []) ++ (if hasB nt 70 then [nFai] else [])
  | _ => nameZ nt ++ (if hasB nt 83 then [nSuc] else []) ++ (if hasB nt 70 then [nFai] else []) ++ (if hasB nt 68 then [nDel] else [])
theorem nameK_len (nt : ByteArray) : (nameK nt 0).length ≤ 1 ∧ (nameK nt 1).length ≤ 2 ∧ (nameK nt 2).length ≤ 3 ∧ (nameK nt 3).length ≤ 4 := by
  unfold nameK nameZ
  cases (nt.toList == [78]) <;> cases hasB nt 83 <;> cases hasB nt 70 <;> cases hasB nt 68 <;> decide
theorem nameK_flat (nt : ByteArray) : flatLen (nameK nt 3) ≤ 30 := by
  unfold nameK nameZ
  cases (nt.toList == [78]) <;> cases hasB nt 83 <;> cases hasB nt 70 <;> cases hasB nt 68 <;> decide
def wNt (nt : ByteArray) : List ByteArray := if nameK nt 3 = [] then [] else [(⟨#[78, 79, 84, 73, 70, 89, 61]⟩ : ByteArray) ++ joinB (nameK nt 3) ⟨#[44]⟩]
def wOc (kd oc : ByteArray) : ByteArray := (⟨#[79, 82, 67, 80, 84, 61]⟩ : ByteArray) ++ kd ++ ⟨#[59]⟩ ++ encB oc
def rcptText (nt kd oc : ByteArray) : ByteArray := joinB (wNt nt ++ (if kd.toList == [] then [] else [wOc kd oc])) ⟨#[32]⟩
end Pm
theorem heap_to {w : World} {r : Nat} (h : w.heap.size = r) (o : Obj) : (w.alloc o).heap[r]? = some o := h ▸ heap_alloc_new w o
theorem Mine.drew1 {w : World} {L : List (Nat × Array Value × TypeId)} {W : World} (h : Mine w L W) : Mine w L W.drew := h.drewN 1
theorem Row.drew1 {w : World} {base : Nat} {v : Value} {xs : List ByteArray} (h : Row w base v xs) : Row w.drew base v xs := h.drewN 1
theorem cells3 {w W : World} {LL : List (Nat × Array Value × TypeId)} {nt kd oc : ByteArray} (h : Mine w (LL ++ [(w.heap.size, #[.string nt, .string kd, .string oc], 29)]) W) : W.cell? ⟨w.heap.size, 1, none⟩ = some (.string kd) ∧ W.cell? ⟨w.heap.size, 2, none⟩ = some (.string oc) :=
  have hb := (h.own (w.heap.size, #[.string nt, .string kd, .string oc], 29) (by simp)).2
  ⟨hb.cell 1 _ rfl, hb.cell 2 _ rfl⟩
theorem printRcpt_bad (nt kd oc : ByteArray) (w : World) (hk : kd.size ≤ 1000000000) (r : Int) (hr : Pm.rightRcpt nt kd oc = r) (h0 : r ≠ 0) :
    Calls Tryz.prog 28 #[.agg #[.string nt, .string kd, .string oc]] w fun e w' => e = .returned (.tuple #[.string ⟨#[]⟩, .int .i64 r]) ∧ Below w.heap.size w w' := by
  have M : Aside (Mine w [(w.heap.size, #[.string nt, .string kd, .string oc], 29)] (w.alloc (.cells #[.string nt, .string kd, .string oc] 29))) := ⟨(Mine.start w).alloc _ _⟩
  have hR := fun W => rightRcpt_any nt kd oc W hk
  rw [hr] at hR
  have e0 : ((r : Int) == 0) = false := by simpa using h0
  have e1 : ((r : Int) != 0) = true := by simpa using h0
  clear hr
  go_enter Tryz.func28, Tryz.ntmps28
  go_wp2_with ((go_at_call 76; (with_reducible refine (hR _).mono ?_); rintro e w1 ⟨rfl, hb_⟩; replace M := Aside.mk (M.out.next hb_); clear hb_))
  go_ret2
  exact ⟨rfl, M.out.low⟩
set_option maxHeartbeats 16000000 in
theorem printRcpt_never (nt kd oc : ByteArray) (w : World) (hk : kd.size ≤ 1000000) (ho : oc.size ≤ 1000000) (hr : Pm.rightRcpt nt kd oc = 0) (hn : (nt.toList == [78]) = true) :
    Calls Tryz.prog 28 #[.agg #[.string nt, .string kd, .string oc]] w fun e w' => e = .returned (.tuple #[.string (Pm.rcptText nt kd oc), .int .i64 0]) ∧ Below w.heap.size w w' := by
  have M : Aside (Mine w [(w.heap.size, #[.string nt, .string kd, .string oc], 29)] (w.alloc (.cells #[.string nt, .string kd, .string oc] 29))) := ⟨(Mine.start w).alloc _ _⟩
  have hR := fun W => rightRcpt_any nt kd oc W (by omega)
  rw [hr] at hR
  have hen := fun W => encode_any oc W (by omega)
  change ∀ W, Calls _ _ _ W (fun e w' => e = .returned (.string (encB oc)) ∧ _) at hen
  have hel : (encB oc).size ≤ 3000000 := by
    have h1 := Tx.enc_len oc.data.toList
    have h2 : oc.data.toList.length = oc.size := by simp
    show (Tx.enc oc.data.toList).toArray.size ≤ 3000000
    simp only [List.size_toArray]
    omega
  have HT : Hid (Pm.rcptText nt kd oc = joinB (Pm.wNt nt ++ (if kd.toList == [] then [] else [Pm.wOc kd oc])) ⟨#[32]⟩) := Lib.hid rfl
  have HO : Hid (Pm.wOc kd oc = (⟨#[79, 82, 67, 80, 84, 61]⟩ : ByteArray) ++ kd ++ ⟨#[59]⟩ ++ encB oc) := Lib.hid rfl
  obtain ⟨T, hT⟩ : ∃ T, Pm.rcptText nt kd oc = T := ⟨_, rfl⟩
  rw [hT] at HT
  rw [hT]
  clear hT
  generalize encB oc = ec at hen hel HO
  have hA1 : ¬ 9223372036854775807 < 6 + kd.size := by omega
  have hA2 : ¬ 9223372036854775807 < 6 + kd.size + 1 := by omega
  have hA3 : ¬ 9223372036854775807 < 6 + kd.size + 1 + ec.size := by omega
  have HN0 : Hid (Pm.nameK nt 0 = [nNev]) := Lib.hid (by unfold Pm.nameK Pm.nameZ; rw [hn]; rfl)
  have HLN := Aside.mk (Pm.nameK_len nt)
  have HLF := Aside.mk (Pm.nameK_flat nt)
  have FJ : Aside ((Pm.nameK nt 3).length ≤ 1000000 ∧ flatLen (Pm.nameK nt 3) ≤ 1000000000) := ⟨by have := HLN.out; omega, by have := HLF.out; omega⟩
  have hflat : ∀ (xs ys : List ByteArray), flatLen (xs ++ ys) = flatLen xs + flatLen ys := fun xs ys => by simp [flatLen]
  clear hr
  go_enter Tryz.func28, Tryz.ntmps28
  go_wp2_with (first | (go_at_call 76; (with_reducible refine (hR _).mono ?_); rintro e w1 ⟨rfl, hb_⟩; replace M := Aside.mk (M.out.next hb_); clear hb_; (try clear z0); (try clear z1); (try clear z2); (try clear zl); have zb := (M.out.own (w.heap.size, #[.string nt, .string kd, .string oc], 29) (by simp)).2; have z0 := zb.cell 0 _ rfl; have z1 := zb.cell 1 _ rfl; have z2 := zb.cell 2 _ rfl; have zl := zb.lt; clear zb) | (go_at_call 77; (with_reducible refine (notices_any _).mono ?_); rintro e w3 ⟨rfl, hw3⟩; subst hw3) | (at_builtin; refine app_str rfl _ _ (by rfl) w.heap.size _ _ (by rfl) (Row.nil _ _) _ (by rfl) nNev (heap_alloc_new _ _) (by simp) (by simp; have := M.out.low.size; omega) ?_; intro g cap w4 hr4 hg4 _ _; replace M := Aside.mk ((M.out.allocO _).app (Row.nil _ _) hg4 (by simp)); have R := Aside.mk hr4; clear hr4 hg4; (try clear z0); (try clear z1); (try clear z2); (try clear zl); have zb := (M.out.own (w.heap.size, #[.string nt, .string kd, .string oc], 29) (by simp)).2; have z0 := zb.cell 0 _ rfl; have z1 := zb.cell 1 _ rfl; have z2 := zb.cell 2 _ rfl; have zl := zb.lt; clear zb))
  have M2 := Aside.mk (M.out.alloc #[.string ⟨#[83]⟩, .string nSuc, .string ⟨#[70]⟩, .string nFai, .string ⟨#[68]⟩, .string nDel] 107)
  have R2 := Aside.mk (by rw [HN0.out]; exact R.out.alloc (.cells #[.string ⟨#[83]⟩, .string nSuc, .string ⟨#[70]⟩, .string nFai, .string ⟨#[68]⟩, .string nDel] 107) : Row (w4.alloc (.cells #[.string ⟨#[83]⟩, .string nSuc, .string ⟨#[70]⟩, .string nFai, .string ⟨#[68]⟩, .string nDel] 107)) w.heap.size (.slice (some ⟨g, 0, none⟩) 1 cap) (Pm.nameK nt 0))
  clear M R
  (try clear z0); (try clear z1); (try clear z2); (try clear zl)
  obtain ⟨nb, hnb⟩ : ∃ nb, w4.heap.size = nb := ⟨_, rfl⟩
  rw [hnb] at M2
  simp only [hnb]
  go_loopw [6, 22] (fun v i wr => ∃ k : Nat, k ≤ 3 ∧ i = .int .i64 k ∧ Aside (Row wr w.heap.size v (Pm.nameK nt k)) ∧ Aside (Mine w [(nb, #[.string ⟨#[83]⟩, .string nSuc, .string ⟨#[70]⟩, .string nFai, .string ⟨#[68]⟩, .string nDel], 107), (w.heap.size, #[.string nt, .string kd, .string oc], 29)] wr)) (fun _ i _ => 3 - (intOf i).toNat)
  case atStart => exact ⟨0, by omega, rfl, R2, M2⟩
  case round =>
    clear M2 R2
    obtain ⟨k, hk, rfl, R, M⟩ := hrel
    have zb := (M.out.own (w.heap.size, #[.string nt, .string kd, .string oc], 29) (by simp)).2; have z0 := zb.cell 0 _ rfl; have z1 := zb.cell 1 _ rfl; have z2 := zb.cell 2 _ rfl; have zl := zb.lt; clear zb
    have n0 := Mine.at M.out 0 _ rfl
    have n1 := Mine.at M.out 1 _ rfl
    have n2 := Mine.at M.out 2 _ rfl
    have n3 := Mine.at M.out 3 _ rfl
    have n4 := Mine.at M.out 4 _ rfl
    have n5 := Mine.at M.out 5 _ rfl
    rcases (show k = 0 ∨ k = 1 ∨ k = 2 ∨ k = 3 by omega) with rfl | rfl | rfl | rfl
    · have hcon := fun W => Tryz.strings_Contains_one nt 83 W
      cases hc : decide (0 ≤ Lib.indexByte nt.data.toList 83) with
      | true =>
        rw [hc] at hcon
        have HK : Hid (Pm.nameK nt 1 = Pm.nameK nt 0 ++ [nSuc]) := Lib.hid (by
          have hb : Pm.hasB nt 83 = true := hc
          simp only [Pm.nameK, hb, if_true, List.append_assoc])
        clear hc
        go_wp2_with (first | (go_at_call 78; (with_reducible refine (hcon _).mono ?_); rintro e w' ⟨rfl, hw_⟩; have hw' := hw_.symm; clear hw_; subst hw') | (at_builtin; refine app_str rfl _ _ (by rfl) w.heap.size _ _ (by rfl) ((R.out.alloc _).alloc _) (wr.heap.size + 1) (by rfl) nSuc (heap_to (by simp) _) (by have := HLN.out; omega) (by simp; have := M.out.low.size; omega) ?_; intro g cap w4 hr4 hg4 _ _; replace M := Aside.mk (((M.out.allocO _).allocO _).app ((R.out.alloc _).alloc _) hg4 (by simp)); clear R; have R := Aside.mk hr4; clear hr4 hg4))
        go_roundw
        case rel => first | exact ⟨1, by omega, rfl, ⟨by rw [HK.out]; exact R.out⟩, M⟩ | ((repeat apply Exists.intro); exact ⟨⟨1, by omega, rfl, ⟨by rw [HK.out]; exact R.out⟩, M⟩, rfl⟩)
        case measure => simp [intOf]
      | false =>
        rw [hc] at hcon
        have HK : Hid (Pm.nameK nt 1 = Pm.nameK nt 0) := Lib.hid (by
          have hb : Pm.hasB nt 83 = false := hc
          simp [Pm.nameK, hb])
        clear hc
        go_wp2_with (go_at_call 78; (with_reducible refine (hcon _).mono ?_); rintro e w' ⟨rfl, hw_⟩; have hw' := hw_.symm; clear hw_; subst hw')
        go_roundw
        case rel => first | exact ⟨1, by omega, rfl, ⟨by rw [HK.out]; exact R.out.alloc _⟩, ⟨M.out.allocO _⟩⟩ | ((repeat apply Exists.intro); exact ⟨⟨1, by omega, rfl, ⟨by rw [HK.out]; exact R.out.alloc _⟩, ⟨M.out.allocO _⟩⟩, rfl⟩)
        case measure => simp [intOf]
    · have hcon := fun W => Tryz.strings_Contains_one nt 70 W
      cases hc : decide (0 ≤ Lib.indexByte nt.data.toList 70) with
      | true =>
        rw [hc] at hcon
        have HK : Hid (Pm.nameK nt 2 = Pm.nameK nt 1 ++ [nFai]) := Lib.hid (by
          have hb : Pm.hasB nt 70 = true := hc
          simp only [Pm.nameK, hb, if_true, List.append_assoc])
        clear hc
        go_wp2_with (first | (go_at_call 78; (with_reducible refine (hcon _).mono ?_); rintro e w' ⟨rfl, hw_⟩; have hw' := hw_.symm; clear hw_; subst hw') | (at_builtin; refine app_str rfl _ _ (by rfl) w.heap.size _ _ (by rfl) ((R.out.alloc _).alloc _) (wr.heap.size + 1) (by rfl) nFai (heap_to (by simp) _) (by have := HLN.out; omega) (by simp; have := M.out.low.size; omega) ?_; intro g cap w4 hr4 hg4 _ _; replace M := Aside.mk (((M.out.allocO _).allocO _).app ((R.out.alloc _).alloc _) hg4 (by simp)); clear R; have R := Aside.mk hr4; clear hr4 hg4))
        go_roundw
        case rel => first | exact ⟨2, by omega, rfl, ⟨by rw [HK.out]; exact R.out⟩, M⟩ | ((repeat apply Exists.intro); exact ⟨⟨2, by omega, rfl, ⟨by rw [HK.out]; exact R.out⟩, M⟩, rfl⟩)
        case measure => simp [intOf]
      | false =>
        rw [hc] at hcon
        have HK : Hid (Pm.nameK nt 2 = Pm.nameK nt 1) := Lib.hid (by
          have hb : Pm.hasB nt 70 = false := hc
          simp [Pm.nameK, hb])
        clear hc
        go_wp2_with (go_at_call 78; (with_reducible refine (hcon _).mono ?_); rintro e w' ⟨rfl, hw_⟩; have hw' := hw_.symm; clear hw_; subst hw')
        go_roundw
        case rel => first | exact ⟨2, by omega, rfl, ⟨by rw [HK.out]; exact R.out.alloc _⟩, ⟨M.out.allocO _⟩⟩ | ((repeat apply Exists.intro); exact ⟨⟨2, by omega, rfl, ⟨by rw [HK.out]; exact R.out.alloc _⟩, ⟨M.out.allocO _⟩⟩, rfl⟩)
        case measure => simp [intOf]
    · have hcon := fun W => Tryz.strings_Contains_one nt 68 W
      cases hc : decide (0 ≤ Lib.indexByte nt.data.toList 68) with
      | true =>
        rw [hc] at hcon
        have HK : Hid (Pm.nameK nt 3 = Pm.nameK nt 2 ++ [nDel]) := Lib.hid (by
          have hb : Pm.hasB nt 68 = true := hc
          simp only [Pm.nameK, hb, if_true, List.append_assoc])
        clear hc
        go_wp2_with (first | (go_at_call 78; (with_reducible refine (hcon _).mono ?_); rintro e w' ⟨rfl, hw_⟩; have hw' := hw_.symm; clear hw_; subst hw') | (at_builtin; refine app_str rfl _ _ (by rfl) w.heap.size _ _ (by rfl) ((R.out.alloc _).alloc _) (wr.heap.size + 1) (by rfl) nDel (heap_to (by simp) _) (by have := HLN.out; omega) (by simp; have := M.out.low.size; omega) ?_; intro g cap w4 hr4 hg4 _ _; replace M := Aside.mk (((M.out.allocO _).allocO _).app ((R.out.alloc _).alloc _) hg4 (by simp)); clear R; have R := Aside.mk hr4; clear hr4 hg4))
        go_roundw
        case rel => first | exact ⟨3, by omega, rfl, ⟨by rw [HK.out]; exact R.out⟩, M⟩ | ((repeat apply Exists.intro); exact ⟨⟨3, by omega, rfl, ⟨by rw [HK.out]; exact R.out⟩, M⟩, rfl⟩)
        case measure => simp [intOf]
      | false =>
        rw [hc] at hcon
        have HK : Hid (Pm.nameK nt 3 = Pm.nameK nt 2) := Lib.hid (by
          have hb : Pm.hasB nt 68 = false := hc
          simp [Pm.nameK, hb])
        clear hc
        go_wp2_with (go_at_call 78; (with_reducible refine (hcon _).mono ?_); rintro e w' ⟨rfl, hw_⟩; have hw' := hw_.symm; clear hw_; subst hw')
        go_roundw
        case rel => first | exact ⟨3, by omega, rfl, ⟨by rw [HK.out]; exact R.out.alloc _⟩, ⟨M.out.allocO _⟩⟩ | ((repeat apply Exists.intro); exact ⟨⟨3, by omega, rfl, ⟨by rw [HK.out]; exact R.out.alloc _⟩, ⟨M.out.allocO _⟩⟩, rfl⟩)
        case measure => simp [intOf]
    · clear n0 n1 n2 n3 n4 n5
      obtain ⟨A, c, hv, _⟩ := R.out.form
      subst hv
      by_cases hnm : Pm.nameK nt 3 = []
      · have HW : Hid (Pm.wNt nt = []) := Lib.hid (by unfold Pm.wNt; rw [if_pos hnm])
        have hl0 : (Pm.nameK nt 3).length = 0 := by rw [hnm]; rfl
        clear hnm R
        have R : Aside (Row wr w.heap.size (.slice none 0 0) []) := ⟨Row.nil _ _⟩
        cases hkd : (kd.toList == []) with
        | true =>
          have FF : Aside ((([] : List ByteArray) : List ByteArray).length ≤ 1000000 ∧ flatLen ([] : List ByteArray) ≤ 1000000000) := ⟨by simp, by decide⟩
          have hkd2 : (kd.toList != []) = false := by simp only [bne, hkd]; rfl
          rw [hkd] at HT
          go_wp2_with (first | (go_at_call 75; (with_reducible refine (join_row _ _ _ _ _ R.out FF.out.1 FF.out.2 (by decide)).mono ?_); rintro e w9 ⟨rfl, hb9⟩))
          go_ret2
          refine ⟨?_, Below.next M.out.low hb9 (Nat.le_refl _)⟩
          rw [HT.out, HW.out]
          rfl
        | false =>
          have FF : Aside ((([] : List ByteArray) ++ [(⟨#[79, 82, 67, 80, 84, 61]⟩ : ByteArray) ++ kd ++ ⟨#[59]⟩ ++ ec]).length ≤ 1000000 ∧ flatLen (([] : List ByteArray) ++ [(⟨#[79, 82, 67, 80, 84, 61]⟩ : ByteArray) ++ kd ++ ⟨#[59]⟩ ++ ec]) ≤ 1000000000) := ⟨by simp, by (rw [hflat]; simp [flatLen, ByteArray.size_append]; have h6 : (⟨#[79, 82, 67, 80, 84, 61]⟩ : ByteArray).size = 6 := rfl; have h1 : (⟨#[59]⟩ : ByteArray).size = 1 := rfl; omega)⟩
          have hkd2 : (kd.toList != []) = true := by simp only [bne, hkd]; rfl
          rw [hkd] at HT
          go_wp2
          replace M := Aside.mk M.out.drew1
          replace R := Aside.mk (R.out.drew1)
          (try clear z0); (try clear z1); (try clear z2); (try clear zl)
          go_region_held3 (fun w' => w'.cell? ⟨w.heap.size, 1, none⟩ = some (.string kd) ∧ w'.cell? ⟨w.heap.size, 2, none⟩ = some (.string oc))
            (first | exact cells3 (LL := [(nb, #[.string ⟨#[83]⟩, .string nSuc, .string ⟨#[70]⟩, .string nFai, .string ⟨#[68]⟩, .string nDel], 107)]) M.out | exact cells3 (LL := [(nb, #[.string ⟨#[83]⟩, .string nSuc, .string ⟨#[70]⟩, .string nFai, .string ⟨#[68]⟩, .string nDel], 107)]) (M.out.allocO _))
            (first | (go_at_call 74; (with_reducible refine (hen _).mono ?_); rintro e w7 ⟨rfl, hb⟩; replace M := Aside.mk (M.out.next hb); replace R := Aside.mk (R.out.next hb); clear hb) | (refine app_step_n rfl _ _ rfl w.heap.size _ _ 0 (by rfl) (by rfl) (R.out.alloc _) _ (by rfl) _ (heap_alloc_new _ _) (by omega) ((M.out.allocO _).low.size) ?_; intro g_ cap_ w8 hrow4 hgrow4 _ _; replace M := Aside.mk ((M.out.allocO _).app (R.out.alloc _) hgrow4 (by simp)); clear R; have R := Aside.mk hrow4; clear hrow4 hgrow4))
          all_goals
            go_wp2_with (go_at_call 75; (with_reducible refine (join_row _ _ _ _ _ R.out FF.out.1 FF.out.2 (by decide)).mono ?_); rintro e w9 ⟨rfl, hb9⟩)
            go_ret2
            refine ⟨?_, Below.next M.out.low hb9 (Nat.le_refl _)⟩
            rw [HT.out, HW.out, HO.out]
            rfl
      · have hl0 : 0 < (Pm.nameK nt 3).length := List.length_pos_iff.2 hnm
        obtain ⟨jn, hjn⟩ : ∃ jn, joinB (Pm.nameK nt 3) ⟨#[44]⟩ = jn := ⟨_, rfl⟩
        have HW : Hid (Pm.wNt nt = [(⟨#[78, 79, 84, 73, 70, 89, 61]⟩ : ByteArray) ++ jn]) := Lib.hid (by unfold Pm.wNt; rw [if_neg hnm, hjn])
        have hjs : jn.size ≤ 100 := by
          have h1 := join_len [44] (Pm.nameK nt 3)
          have h2 := HLF.out
          have h3 := HLN.out
          have h4 : jn.size = (Lib.join ((Pm.nameK nt 3).map (·.data.toList)) [44]).length := by rw [← hjn]; rfl
          simp at h1
          omega
        have hjo : ¬ 9223372036854775807 < 7 + jn.size := by omega
        clear hnm
        cases hkd : (kd.toList == []) with
        | true =>
          have FF : Aside (([(⟨#[78, 79, 84, 73, 70, 89, 61]⟩ : ByteArray) ++ jn] : List ByteArray).length ≤ 1000000 ∧ flatLen [(⟨#[78, 79, 84, 73, 70, 89, 61]⟩ : ByteArray) ++ jn] ≤ 1000000000) := ⟨by simp, by (simp [flatLen, ByteArray.size_append]; have h7 : (⟨#[78, 79, 84, 73, 70, 89, 61]⟩ : ByteArray).size = 7 := rfl; omega)⟩
          have hkd2 : (kd.toList != []) = false := by simp only [bne, hkd]; rfl
          rw [hkd] at HT
          go_wp2_with (first | (go_at_call 75; (with_reducible refine (join_row _ _ _ _ _ R.out FJ.out.1 FJ.out.2 (by decide)).mono ?_); rw [hjn]; rintro e w5 ⟨rfl, hb5⟩; replace M := Aside.mk (M.out.next hb5); clear hb5; (try clear z0); (try clear z1); (try clear z2); (try clear zl); have zb := (M.out.own (w.heap.size, #[.string nt, .string kd, .string oc], 29) (by simp)).2; have z0 := zb.cell 0 _ rfl; have z1 := zb.cell 1 _ rfl; have z2 := zb.cell 2 _ rfl; have zl := zb.lt; clear zb) | (at_builtin; refine app_str rfl _ _ (by rfl) w.heap.size _ _ (by rfl) (Row.nil _ _) _ (by rfl) ((⟨#[78, 79, 84, 73, 70, 89, 61]⟩ : ByteArray) ++ jn) (heap_alloc_new _ _) (by simp) (by simp; have := M.out.low.size; omega) ?_; intro g cap w6 hr4 hg4 _ _; replace M := Aside.mk ((M.out.allocO _).app (Row.nil _ _) hg4 (by simp)); clear R; have R : Aside (Row w6 w.heap.size (.slice (some ⟨g, 0, none⟩) 1 cap) [(⟨#[78, 79, 84, 73, 70, 89, 61]⟩ : ByteArray) ++ jn]) := ⟨hr4⟩; clear hr4 hg4; (try clear z0); (try clear z1); (try clear z2); (try clear zl); have zb := (M.out.own (w.heap.size, #[.string nt, .string kd, .string oc], 29) (by simp)).2; have z0 := zb.cell 0 _ rfl; have z1 := zb.cell 1 _ rfl; have z2 := zb.cell 2 _ rfl; have zl := zb.lt; clear zb) | (go_at_call 75; (with_reducible refine (join_row _ _ _ _ _ R.out FF.out.1 FF.out.2 (by decide)).mono ?_); rintro e w9 ⟨rfl, hb9⟩))
          go_ret2
          refine ⟨?_, Below.next M.out.low hb9 (Nat.le_refl _)⟩
          rw [HT.out, HW.out]
          rfl
        | false =>
          have FF : Aside (([(⟨#[78, 79, 84, 73, 70, 89, 61]⟩ : ByteArray) ++ jn] ++ [(⟨#[79, 82, 67, 80, 84, 61]⟩ : ByteArray) ++ kd ++ ⟨#[59]⟩ ++ ec]).length ≤ 1000000 ∧ flatLen ([(⟨#[78, 79, 84, 73, 70, 89, 61]⟩ : ByteArray) ++ jn] ++ [(⟨#[79, 82, 67, 80, 84, 61]⟩ : ByteArray) ++ kd ++ ⟨#[59]⟩ ++ ec]) ≤ 1000000000) := ⟨by simp, by (rw [hflat]; simp [flatLen, ByteArray.size_append]; have h6 : (⟨#[79, 82, 67, 80, 84, 61]⟩ : ByteArray).size = 6 := rfl; have h1 : (⟨#[59]⟩ : ByteArray).size = 1 := rfl; have h7 : (⟨#[78, 79, 84, 73, 70, 89, 61]⟩ : ByteArray).size = 7 := rfl; omega)⟩
          have hkd2 : (kd.toList != []) = true := by simp only [bne, hkd]; rfl
          rw [hkd] at HT
          go_wp2_with (first | (go_at_call 75; (with_reducible refine (join_row _ _ _ _ _ R.out FJ.out.1 FJ.out.2 (by decide)).mono ?_); rw [hjn]; rintro e w5 ⟨rfl, hb5⟩; replace M := Aside.mk (M.out.next hb5); clear hb5; (try clear z0); (try clear z1); (try clear z2); (try clear zl); have zb := (M.out.own (w.heap.size, #[.string nt, .string kd, .string oc], 29) (by simp)).2; have z0 := zb.cell 0 _ rfl; have z1 := zb.cell 1 _ rfl; have z2 := zb.cell 2 _ rfl; have zl := zb.lt; clear zb) | (at_builtin; refine app_str rfl _ _ (by rfl) w.heap.size _ _ (by rfl) (Row.nil _ _) _ (by rfl) ((⟨#[78, 79, 84, 73, 70, 89, 61]⟩ : ByteArray) ++ jn) (heap_alloc_new _ _) (by simp) (by simp; have := M.out.low.size; omega) ?_; intro g cap w6 hr4 hg4 _ _; replace M := Aside.mk ((M.out.allocO _).app (Row.nil _ _) hg4 (by simp)); clear R; have R : Aside (Row w6 w.heap.size (.slice (some ⟨g, 0, none⟩) 1 cap) [(⟨#[78, 79, 84, 73, 70, 89, 61]⟩ : ByteArray) ++ jn]) := ⟨hr4⟩; clear hr4 hg4; (try clear z0); (try clear z1); (try clear z2); (try clear zl); have zb := (M.out.own (w.heap.size, #[.string nt, .string kd, .string oc], 29) (by simp)).2; have z0 := zb.cell 0 _ rfl; have z1 := zb.cell 1 _ rfl; have z2 := zb.cell 2 _ rfl; have zl := zb.lt; clear zb))
          replace M := Aside.mk M.out.drew1
          replace R := Aside.mk (R.out.drew1)
          (try clear z0); (try clear z1); (try clear z2); (try clear zl)
          go_region_held3 (fun w' => w'.cell? ⟨w.heap.size, 1, none⟩ = some (.string kd) ∧ w'.cell? ⟨w.heap.size, 2, none⟩ = some (.string oc))
            (first | exact cells3 (LL := [(nb, #[.string ⟨#[83]⟩, .string nSuc, .string ⟨#[70]⟩, .string nFai, .string ⟨#[68]⟩, .string nDel], 107)]) M.out | exact cells3 (LL := [(nb, #[.string ⟨#[83]⟩, .string nSuc, .string ⟨#[70]⟩, .string nFai, .string ⟨#[68]⟩, .string nDel], 107)]) (M.out.allocO _))
            (first | (go_at_call 74; (with_reducible refine (hen _).mono ?_); rintro e w7 ⟨rfl, hb⟩; replace M := Aside.mk (M.out.next hb); replace R := Aside.mk (R.out.next hb); clear hb) | (refine app_step_n rfl _ _ rfl w.heap.size _ _ 1 (by rfl) (by rfl) (R.out.alloc _) _ (by rfl) _ (heap_alloc_new _ _) (by omega) ((M.out.allocO _).low.size) ?_; intro g_ cap_ w8 hrow4 hgrow4 _ _; replace M := Aside.mk ((M.out.allocO _).app (R.out.alloc _) hgrow4 (by simp)); clear R; have R := Aside.mk hrow4; clear hrow4 hgrow4))
          all_goals
            go_wp2_with (go_at_call 75; (with_reducible refine (join_row _ _ _ _ _ R.out FF.out.1 FF.out.2 (by decide)).mono ?_); rintro e w9 ⟨rfl, hb9⟩)
            go_ret2
            refine ⟨?_, Below.next M.out.low hb9 (Nat.le_refl _)⟩
            rw [HT.out, HW.out, HO.out]
            rfl
set_option maxHeartbeats 16000000 in
theorem printRcpt_some (nt kd oc : ByteArray) (w : World) (hk : kd.size ≤ 1000000) (ho : oc.size ≤ 1000000) (hr : Pm.rightRcpt nt kd oc = 0) (hn : (nt.toList == [78]) = false) :
    Calls Tryz.prog 28 #[.agg #[.string nt, .string kd, .string oc]] w fun e w' => e = .returned (.tuple #[.string (Pm.rcptText nt kd oc), .int .i64 0]) ∧ Below w.heap.size w w' := by
  have M : Aside (Mine w [(w.heap.size, #[.string nt, .string kd, .string oc], 29)] (w.alloc (.cells #[.string nt, .string kd, .string oc] 29))) := ⟨(Mine.start w).alloc _ _⟩
  have hR := fun W => rightRcpt_any nt kd oc W (by omega)
  rw [hr] at hR
  have hen := fun W => encode_any oc W (by omega)
  change ∀ W, Calls _ _ _ W (fun e w' => e = .returned (.string (encB oc)) ∧ _) at hen
  have hel : (encB oc).size ≤ 3000000 := by
    have h1 := Tx.enc_len oc.data.toList
    have h2 : oc.data.toList.length = oc.size := by simp
    show (Tx.enc oc.data.toList).toArray.size ≤ 3000000
    simp only [List.size_toArray]
    omega
  have HT : Hid (Pm.rcptText nt kd oc = joinB (Pm.wNt nt ++ (if kd.toList == [] then [] else [Pm.wOc kd oc])) ⟨#[32]⟩) := Lib.hid rfl
  have HO : Hid (Pm.wOc kd oc = (⟨#[79, 82, 67, 80, 84, 61]⟩ : ByteArray) ++ kd ++ ⟨#[59]⟩ ++ encB oc) := Lib.hid rfl
  obtain ⟨T, hT⟩ : ∃ T, Pm.rcptText nt kd oc = T := ⟨_, rfl⟩
  rw [hT] at HT
  rw [hT]
  clear hT
  generalize encB oc = ec at hen hel HO
  have hA1 : ¬ 9223372036854775807 < 6 + kd.size := by omega
  have hA2 : ¬ 9223372036854775807 < 6 + kd.size + 1 := by omega
  have hA3 : ¬ 9223372036854775807 < 6 + kd.size + 1 + ec.size := by omega
  have HN0 : Hid (Pm.nameK nt 0 = []) := Lib.hid (by unfold Pm.nameK Pm.nameZ; rw [hn]; rfl)
  have HLN := Aside.mk (Pm.nameK_len nt)
  have HLF := Aside.mk (Pm.nameK_flat nt)
  have FJ : Aside ((Pm.nameK nt 3).length ≤ 1000000 ∧ flatLen (Pm.nameK nt 3) ≤ 1000000000) := ⟨by have := HLN.out; omega, by have := HLF.out; omega⟩
  have hflat : ∀ (xs ys : List ByteArray), flatLen (xs ++ ys) = flatLen xs + flatLen ys := fun xs ys => by simp [flatLen]
  clear hr
  go_enter Tryz.func28, Tryz.ntmps28
  go_wp2_with (first | (go_at_call 76; (with_reducible refine (hR _).mono ?_); rintro e w1 ⟨rfl, hb_⟩; replace M := Aside.mk (M.out.next hb_); clear hb_; (try clear z0); (try clear z1); (try clear z2); (try clear zl); have zb := (M.out.own (w.heap.size, #[.string nt, .string kd, .string oc], 29) (by simp)).2; have z0 := zb.cell 0 _ rfl; have z1 := zb.cell 1 _ rfl; have z2 := zb.cell 2 _ rfl; have zl := zb.lt; clear zb) | (go_at_call 77; (with_reducible refine (notices_any _).mono ?_); rintro e w3 ⟨rfl, hw3⟩; subst hw3))
  have M2 := Aside.mk (M.out.alloc #[.string ⟨#[83]⟩, .string nSuc, .string ⟨#[70]⟩, .string nFai, .string ⟨#[68]⟩, .string nDel] 107)
  have R2 := Aside.mk (by rw [HN0.out]; exact Row.nil _ _ : Row (w1.alloc (.cells #[.string ⟨#[83]⟩, .string nSuc, .string ⟨#[70]⟩, .string nFai, .string ⟨#[68]⟩, .string nDel] 107)) w.heap.size (.slice none 0 0) (Pm.nameK nt 0))
  clear M 
  (try clear z0); (try clear z1); (try clear z2); (try clear zl)
  obtain ⟨nb, hnb⟩ : ∃ nb, w1.heap.size = nb := ⟨_, rfl⟩
  rw [hnb] at M2
  simp only [hnb]
  go_loopw [6, 22] (fun v i wr => ∃ k : Nat, k ≤ 3 ∧ i = .int .i64 k ∧ Aside (Row wr w.heap.size v (Pm.nameK nt k)) ∧ Aside (Mine w [(nb, #[.string ⟨#[83]⟩, .string nSuc, .string ⟨#[70]⟩, .string nFai, .string ⟨#[68]⟩, .string nDel], 107), (w.heap.size, #[.string nt, .string kd, .string oc], 29)] wr)) (fun _ i _ => 3 - (intOf i).toNat)
  case atStart => exact ⟨0, by omega, rfl, R2, M2⟩
  case round =>
    clear M2 R2
    obtain ⟨k, hk, rfl, R, M⟩ := hrel
    have zb := (M.out.own (w.heap.size, #[.string nt, .string kd, .string oc], 29) (by simp)).2; have z0 := zb.cell 0 _ rfl; have z1 := zb.cell 1 _ rfl; have z2 := zb.cell 2 _ rfl; have zl := zb.lt; clear zb
    have n0 := Mine.at M.out 0 _ rfl
    have n1 := Mine.at M.out 1 _ rfl
    have n2 := Mine.at M.out 2 _ rfl
    have n3 := Mine.at M.out 3 _ rfl
    have n4 := Mine.at M.out 4 _ rfl
    have n5 := Mine.at M.out 5 _ rfl
    rcases (show k = 0 ∨ k = 1 ∨ k = 2 ∨ k = 3 by omega) with rfl | rfl | rfl | rfl
    · have hcon := fun W => Tryz.strings_Contains_one nt 83 W
      cases hc : decide (0 ≤ Lib.indexByte nt.data.toList 83) with
      | true =>
        rw [hc] at hcon
        have HK : Hid (Pm.nameK nt 1 = Pm.nameK nt 0 ++ [nSuc]) := Lib.hid (by
          have hb : Pm.hasB nt 83 = true := hc
          simp only [Pm.nameK, hb, if_true, List.append_assoc])
        clear hc
        go_wp2_with (first | (go_at_call 78; (with_reducible refine (hcon _).mono ?_); rintro e w' ⟨rfl, hw_⟩; have hw' := hw_.symm; clear hw_; subst hw') | (at_builtin; refine app_str rfl _ _ (by rfl) w.heap.size _ _ (by rfl) ((R.out.alloc _).alloc _) (wr.heap.size + 1) (by rfl) nSuc (heap_to (by simp) _) (by have := HLN.out; omega) (by simp; have := M.out.low.size; omega) ?_; intro g cap w4 hr4 hg4 _ _; replace M := Aside.mk (((M.out.allocO _).allocO _).app ((R.out.alloc _).alloc _) hg4 (by simp)); clear R; have R := Aside.mk hr4; clear hr4 hg4))
        go_roundw
        case rel => first | exact ⟨1, by omega, rfl, ⟨by rw [HK.out]; exact R.out⟩, M⟩ | ((repeat apply Exists.intro); exact ⟨⟨1, by omega, rfl, ⟨by rw [HK.out]; exact R.out⟩, M⟩, rfl⟩)
        case measure => simp [intOf]
      | false =>
        rw [hc] at hcon
        have HK : Hid (Pm.nameK nt 1 = Pm.nameK nt 0) := Lib.hid (by
          have hb : Pm.hasB nt 83 = false := hc
          simp [Pm.nameK, hb])
        clear hc
        go_wp2_with (go_at_call 78; (with_reducible refine (hcon _).mono ?_); rintro e w' ⟨rfl, hw_⟩; have hw' := hw_.symm; clear hw_; subst hw')
        go_roundw
        case rel => first | exact ⟨1, by omega, rfl, ⟨by rw [HK.out]; exact R.out.alloc _⟩, ⟨M.out.allocO _⟩⟩ | ((repeat apply Exists.intro); exact ⟨⟨1, by omega, rfl, ⟨by rw [HK.out]; exact R.out.alloc _⟩, ⟨M.out.allocO _⟩⟩, rfl⟩)
        case measure => simp [intOf]
    · have hcon := fun W => Tryz.strings_Contains_one nt 70 W
      cases hc : decide (0 ≤ Lib.indexByte nt.data.toList 70) with
      | true =>
        rw [hc] at hcon
        have HK : Hid (Pm.nameK nt 2 = Pm.nameK nt 1 ++ [nFai]) := Lib.hid (by
          have hb : Pm.hasB nt 70 = true := hc
          simp only [Pm.nameK, hb, if_true, List.append_assoc])
        clear hc
        go_wp2_with (first | (go_at_call 78; (with_reducible refine (hcon _).mono ?_); rintro e w' ⟨rfl, hw_⟩; have hw' := hw_.symm; clear hw_; subst hw') | (at_builtin; refine app_str rfl _ _ (by rfl) w.heap.size _ _ (by rfl) ((R.out.alloc _).alloc _) (wr.heap.size + 1) (by rfl) nFai (heap_to (by simp) _) (by have := HLN.out; omega) (by simp; have := M.out.low.size; omega) ?_; intro g cap w4 hr4 hg4 _ _; replace M := Aside.mk (((M.out.allocO _).allocO _).app ((R.out.alloc _).alloc _) hg4 (by simp)); clear R; have R := Aside.mk hr4; clear hr4 hg4))
        go_roundw
        case rel => first | exact ⟨2, by omega, rfl, ⟨by rw [HK.out]; exact R.out⟩, M⟩ | ((repeat apply Exists.intro); exact ⟨⟨2, by omega, rfl, ⟨by rw [HK.out]; exact R.out⟩, M⟩, rfl⟩)
        case measure => simp [intOf]
      | false =>
        rw [hc] at hcon
        have HK : Hid (Pm.nameK nt 2 = Pm.nameK nt 1) := Lib.hid (by
          have hb : Pm.hasB nt 70 = false := hc
          simp [Pm.nameK, hb])
        clear hc
        go_wp2_with (go_at_call 78; (with_reducible refine (hcon _).mono ?_); rintro e w' ⟨rfl, hw_⟩; have hw' := hw_.symm; clear hw_; subst hw')
        go_roundw
        case rel => first | exact ⟨2, by omega, rfl, ⟨by rw [HK.out]; exact R.out.alloc _⟩, ⟨M.out.allocO _⟩⟩ | ((repeat apply Exists.intro); exact ⟨⟨2, by omega, rfl, ⟨by rw [HK.out]; exact R.out.alloc _⟩, ⟨M.out.allocO _⟩⟩, rfl⟩)
        case measure => simp [intOf]
    · have hcon := fun W => Tryz.strings_Contains_one nt 68 W
      cases hc : decide (0 ≤ Lib.indexByte nt.data.toList 68) with
      | true =>
        rw [hc] at hcon
        have HK : Hid (Pm.nameK nt 3 = Pm.nameK nt 2 ++ [nDel]) := Lib.hid (by
          have hb : Pm.hasB nt 68 = true := hc
          simp only [Pm.nameK, hb, if_true, List.append_assoc])
        clear hc
        go_wp2_with (first | (go_at_call 78; (with_reducible refine (hcon _).mono ?_); rintro e w' ⟨rfl, hw_⟩; have hw' := hw_.symm; clear hw_; subst hw') | (at_builtin; refine app_str rfl _ _ (by rfl) w.heap.size _ _ (by rfl) ((R.out.alloc _).alloc _) (wr.heap.size + 1) (by rfl) nDel (heap_to (by simp) _) (by have := HLN.out; omega) (by simp; have := M.out.low.size; omega) ?_; intro g cap w4 hr4 hg4 _ _; replace M := Aside.mk (((M.out.allocO _).allocO _).app ((R.out.alloc _).alloc _) hg4 (by simp)); clear R; have R := Aside.mk hr4; clear hr4 hg4))
        go_roundw
        case rel => first | exact ⟨3, by omega, rfl, ⟨by rw [HK.out]; exact R.out⟩, M⟩ | ((repeat apply Exists.intro); exact ⟨⟨3, by omega, rfl, ⟨by rw [HK.out]; exact R.out⟩, M⟩, rfl⟩)
        case measure => simp [intOf]
      | false =>
        rw [hc] at hcon
        have HK : Hid (Pm.nameK nt 3 = Pm.nameK nt 2) := Lib.hid (by
          have hb : Pm.hasB nt 68 = false := hc
          simp [Pm.nameK, hb])
        clear hc
        go_wp2_with (go_at_call 78; (with_reducible refine (hcon _).mono ?_); rintro e w' ⟨rfl, hw_⟩; have hw' := hw_.symm; clear hw_; subst hw')
        go_roundw
        case rel => first | exact ⟨3, by omega, rfl, ⟨by rw [HK.out]; exact R.out.alloc _⟩, ⟨M.out.allocO _⟩⟩ | ((repeat apply Exists.intro); exact ⟨⟨3, by omega, rfl, ⟨by rw [HK.out]; exact R.out.alloc _⟩, ⟨M.out.allocO _⟩⟩, rfl⟩)
        case measure => simp [intOf]
    · clear n0 n1 n2 n3 n4 n5
      obtain ⟨A, c, hv, _⟩ := R.out.form
      subst hv
      by_cases hnm : Pm.nameK nt 3 = []
      · have HW : Hid (Pm.wNt nt = []) := Lib.hid (by unfold Pm.wNt; rw [if_pos hnm])
        have hl0 : (Pm.nameK nt 3).length = 0 := by rw [hnm]; rfl
        clear hnm R
        have R : Aside (Row wr w.heap.size (.slice none 0 0) []) := ⟨Row.nil _ _⟩
        cases hkd : (kd.toList == []) with
        | true =>
          have FF : Aside ((([] : List ByteArray) : List ByteArray).length ≤ 1000000 ∧ flatLen ([] : List ByteArray) ≤ 1000000000) := ⟨by simp, by decide⟩
          have hkd2 : (kd.toList != []) = false := by simp only [bne, hkd]; rfl
          rw [hkd] at HT
          go_wp2_with (first | (go_at_call 75; (with_reducible refine (join_row _ _ _ _ _ R.out FF.out.1 FF.out.2 (by decide)).mono ?_); rintro e w9 ⟨rfl, hb9⟩))
          go_ret2
          refine ⟨?_, Below.next M.out.low hb9 (Nat.le_refl _)⟩
          rw [HT.out, HW.out]
          rfl
        | false =>
          have FF : Aside ((([] : List ByteArray) ++ [(⟨#[79, 82, 67, 80, 84, 61]⟩ : ByteArray) ++ kd ++ ⟨#[59]⟩ ++ ec]).length ≤ 1000000 ∧ flatLen (([] : List ByteArray) ++ [(⟨#[79, 82, 67, 80, 84, 61]⟩ : ByteArray) ++ kd ++ ⟨#[59]⟩ ++ ec]) ≤ 1000000000) := ⟨by simp, by (rw [hflat]; simp [flatLen, ByteArray.size_append]; have h6 : (⟨#[79, 82, 67, 80, 84, 61]⟩ : ByteArray).size = 6 := rfl; have h1 : (⟨#[59]⟩ : ByteArray).size = 1 := rfl; omega)⟩
          have hkd2 : (kd.toList != []) = true := by simp only [bne, hkd]; rfl
          rw [hkd] at HT
          go_wp2
          replace M := Aside.mk M.out.drew1
          replace R := Aside.mk (R.out.drew1)
          (try clear z0); (try clear z1); (try clear z2); (try clear zl)
          go_region_held3 (fun w' => w'.cell? ⟨w.heap.size, 1, none⟩ = some (.string kd) ∧ w'.cell? ⟨w.heap.size, 2, none⟩ = some (.string oc))
            (first | exact cells3 (LL := [(nb, #[.string ⟨#[83]⟩, .string nSuc, .string ⟨#[70]⟩, .string nFai, .string ⟨#[68]⟩, .string nDel], 107)]) M.out | exact cells3 (LL := [(nb, #[.string ⟨#[83]⟩, .string nSuc, .string ⟨#[70]⟩, .string nFai, .string ⟨#[68]⟩, .string nDel], 107)]) (M.out.allocO _))
            (first | (go_at_call 74; (with_reducible refine (hen _).mono ?_); rintro e w7 ⟨rfl, hb⟩; replace M := Aside.mk (M.out.next hb); replace R := Aside.mk (R.out.next hb); clear hb) | (refine app_step_n rfl _ _ rfl w.heap.size _ _ 0 (by rfl) (by rfl) (R.out.alloc _) _ (by rfl) _ (heap_alloc_new _ _) (by omega) ((M.out.allocO _).low.size) ?_; intro g_ cap_ w8 hrow4 hgrow4 _ _; replace M := Aside.mk ((M.out.allocO _).app (R.out.alloc _) hgrow4 (by simp)); clear R; have R := Aside.mk hrow4; clear hrow4 hgrow4))
          all_goals
            go_wp2_with (go_at_call 75; (with_reducible refine (join_row _ _ _ _ _ R.out FF.out.1 FF.out.2 (by decide)).mono ?_); rintro e w9 ⟨rfl, hb9⟩)
            go_ret2
            refine ⟨?_, Below.next M.out.low hb9 (Nat.le_refl _)⟩
            rw [HT.out, HW.out, HO.out]
            rfl
      · have hl0 : 0 < (Pm.nameK nt 3).length := List.length_pos_iff.2 hnm
        obtain ⟨jn, hjn⟩ : ∃ jn, joinB (Pm.nameK nt 3) ⟨#[44]⟩ = jn := ⟨_, rfl⟩
        have HW : Hid (Pm.wNt nt = [(⟨#[78, 79, 84, 73, 70, 89, 61]⟩ : ByteArray) ++ jn]) := Lib.hid (by unfold Pm.wNt; rw [if_neg hnm, hjn])
        have hjs : jn.size ≤ 100 := by
          have h1 := join_len [44] (Pm.nameK nt 3)
          have h2 := HLF.out
          have h3 := HLN.out
          have h4 : jn.size = (Lib.join ((Pm.nameK nt 3).map (·.data.toList)) [44]).length := by rw [← hjn]; rfl
          simp at h1
          omega
        have hjo : ¬ 9223372036854775807 < 7 + jn.size := by omega
        clear hnm
        cases hkd : (kd.toList == []) with
        | true =>
          have FF : Aside (([(⟨#[78, 79, 84, 73, 70, 89, 61]⟩ : ByteArray) ++ jn] : List ByteArray).length ≤ 1000000 ∧ flatLen [(⟨#[78, 79, 84, 73, 70, 89, 61]⟩ : ByteArray) ++ jn] ≤ 1000000000) := ⟨by simp, by (simp [flatLen, ByteArray.size_append]; have h7 : (⟨#[78, 79, 84, 73, 70, 89, 61]⟩ : ByteArray).size = 7 := rfl; omega)⟩
          have hkd2 : (kd.toList != []) = false := by simp only [bne, hkd]; rfl
          rw [hkd] at HT
          go_wp2_with (first | (go_at_call 75; (with_reducible refine (join_row _ _ _ _ _ R.out FJ.out.1 FJ.out.2 (by decide)).mono ?_); rw [hjn]; rintro e w5 ⟨rfl, hb5⟩; replace M := Aside.mk (M.out.next hb5); clear hb5; (try clear z0); (try clear z1); (try clear z2); (try clear zl); have zb := (M.out.own (w.heap.size, #[.string nt, .string kd, .string oc], 29) (by simp)).2; have z0 := zb.cell 0 _ rfl; have z1 := zb.cell 1 _ rfl; have z2 := zb.cell 2 _ rfl; have zl := zb.lt; clear zb) | (at_builtin; refine app_str rfl _ _ (by rfl) w.heap.size _ _ (by rfl) (Row.nil _ _) _ (by rfl) ((⟨#[78, 79, 84, 73, 70, 89, 61]⟩ : ByteArray) ++ jn) (heap_alloc_new _ _) (by simp) (by simp; have := M.out.low.size; omega) ?_; intro g cap w6 hr4 hg4 _ _; replace M := Aside.mk ((M.out.allocO _).app (Row.nil _ _) hg4 (by simp)); clear R; have R : Aside (Row w6 w.heap.size (.slice (some ⟨g, 0, none⟩) 1 cap) [(⟨#[78, 79, 84, 73, 70, 89, 61]⟩ : ByteArray) ++ jn]) := ⟨hr4⟩; clear hr4 hg4; (try clear z0); (try clear z1); (try clear z2); (try clear zl); have zb := (M.out.own (w.heap.size, #[.string nt, .string kd, .string oc], 29) (by simp)).2; have z0 := zb.cell 0 _ rfl; have z1 := zb.cell 1 _ rfl; have z2 := zb.cell 2 _ rfl; have zl := zb.lt; clear zb) | (go_at_call 75; (with_reducible refine (join_row _ _ _ _ _ R.out FF.out.1 FF.out.2 (by decide)).mono ?_); rintro e w9 ⟨rfl, hb9⟩))
          go_ret2
          refine ⟨?_, Below.next M.out.low hb9 (Nat.le_refl _)⟩
          rw [HT.out, HW.out]
          rfl
        | false =>
          have FF : Aside (([(⟨#[78, 79, 84, 73, 70, 89, 61]⟩ : ByteArray) ++ jn] ++ [(⟨#[79, 82, 67, 80, 84, 61]⟩ : ByteArray) ++ kd ++ ⟨#[59]⟩ ++ ec]).length ≤ 1000000 ∧ flatLen ([(⟨#[78, 79, 84, 73, 70, 89, 61]⟩ : ByteArray) ++ jn] ++ [(⟨#[79, 82, 67, 80, 84, 61]⟩ : ByteArray) ++ kd ++ ⟨#[59]⟩ ++ ec]) ≤ 1000000000) := ⟨by simp, by (rw [hflat]; simp [flatLen, ByteArray.size_append]; have h6 : (⟨#[79, 82, 67, 80, 84, 61]⟩ : ByteArray).size = 6 := rfl; have h1 : (⟨#[59]⟩ : ByteArray).size = 1 := rfl; have h7 : (⟨#[78, 79, 84, 73, 70, 89, 61]⟩ : ByteArray).size = 7 := rfl; omega)⟩
          have hkd2 : (kd.toList != []) = true := by simp only [bne, hkd]; rfl
          rw [hkd] at HT
          go_wp2_with (first | (go_at_call 75; (with_reducible refine (join_row _ _ _ _ _ R.out FJ.out.1 FJ.out.2 (by decide)).mono ?_); rw [hjn]; rintro e w5 ⟨rfl, hb5⟩; replace M := Aside.mk (M.out.next hb5); clear hb5; (try clear z0); (try clear z1); (try clear z2); (try clear zl); have zb := (M.out.own (w.heap.size, #[.string nt, .string kd, .string oc], 29) (by simp)).2; have z0 := zb.cell 0 _ rfl; have z1 := zb.cell 1 _ rfl; have z2 := zb.cell 2 _ rfl; have zl := zb.lt; clear zb) | (at_builtin; refine app_str rfl _ _ (by rfl) w.heap.size _ _ (by rfl) (Row.nil _ _) _ (by rfl) ((⟨#[78, 79, 84, 73, 70, 89, 61]⟩ : ByteArray) ++ jn) (heap_alloc_new _ _) (by simp) (by simp; have := M.out.low.size; omega) ?_; intro g cap w6 hr4 hg4 _ _; replace M := Aside.mk ((M.out.allocO _).app (Row.nil _ _) hg4 (by simp)); clear R; have R : Aside (Row w6 w.heap.size (.slice (some ⟨g, 0, none⟩) 1 cap) [(⟨#[78, 79, 84, 73, 70, 89, 61]⟩ : ByteArray) ++ jn]) := ⟨hr4⟩; clear hr4 hg4; (try clear z0); (try clear z1); (try clear z2); (try clear zl); have zb := (M.out.own (w.heap.size, #[.string nt, .string kd, .string oc], 29) (by simp)).2; have z0 := zb.cell 0 _ rfl; have z1 := zb.cell 1 _ rfl; have z2 := zb.cell 2 _ rfl; have zl := zb.lt; clear zb))
          replace M := Aside.mk M.out.drew1
          replace R := Aside.mk (R.out.drew1)
          (try clear z0); (try clear z1); (try clear z2); (try clear zl)
          go_region_held3 (fun w' => w'.cell? ⟨w.heap.size, 1, none⟩ = some (.string kd) ∧ w'.cell? ⟨w.heap.size, 2, none⟩ = some (.string oc))
            (first | exact cells3 (LL := [(nb, #[.string ⟨#[83]⟩, .string nSuc, .string ⟨#[70]⟩, .string nFai, .string ⟨#[68]⟩, .string nDel], 107)]) M.out | exact cells3 (LL := [(nb, #[.string ⟨#[83]⟩, .string nSuc, .string ⟨#[70]⟩, .string nFai, .string ⟨#[68]⟩, .string nDel], 107)]) (M.out.allocO _))
            (first | (go_at_call 74; (with_reducible refine (hen _).mono ?_); rintro e w7 ⟨rfl, hb⟩; replace M := Aside.mk (M.out.next hb); replace R := Aside.mk (R.out.next hb); clear hb) | (refine app_step_n rfl _ _ rfl w.heap.size _ _ 1 (by rfl) (by rfl) (R.out.alloc _) _ (by rfl) _ (heap_alloc_new _ _) (by omega) ((M.out.allocO _).low.size) ?_; intro g_ cap_ w8 hrow4 hgrow4 _ _; replace M := Aside.mk ((M.out.allocO _).app (R.out.alloc _) hgrow4 (by simp)); clear R; have R := Aside.mk hrow4; clear hrow4 hgrow4))
          all_goals
            go_wp2_with (go_at_call 75; (with_reducible refine (join_row _ _ _ _ _ R.out FF.out.1 FF.out.2 (by decide)).mono ?_); rintro e w9 ⟨rfl, hb9⟩)
            go_ret2
            refine ⟨?_, Below.next M.out.low hb9 (Nat.le_refl _)⟩
            rw [HT.out, HW.out, HO.out]
            rfl
theorem printRcpt_any (nt kd oc : ByteArray) (w : World) (hk : kd.size ≤ 1000000) (ho : oc.size ≤ 1000000) :
    Calls Tryz.prog 28 #[.agg #[.string nt, .string kd, .string oc]] w fun e w' => e = .returned (.tuple #[.string (if Pm.rightRcpt nt kd oc = 0 then Pm.rcptText nt kd oc else ⟨#[]⟩), .int .i64 (Pm.rightRcpt nt kd oc)]) ∧ Below w.heap.size w w' := by
  by_cases hr : Pm.rightRcpt nt kd oc = 0
  · rw [if_pos hr, hr]
    cases hn : (nt.toList == [78]) with
    | true => exact printRcpt_never nt kd oc w hk ho hr hn
    | false => exact printRcpt_some nt kd oc w hk ho hr hn
  · rw [if_neg hr]
    exact printRcpt_bad nt kd oc w (by omega) _ rfl hr
end Go.Proofs.YtllhbcpbihhdnaaGreatDoor
