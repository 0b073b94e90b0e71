/-
  Commands: Print (whole).
-/
import Derived.Test.YtllhbcpbihhdnaaGreatDoorQCmPa
import Derived.Test.YtllhbcpbihhdnaaGreatDoorQCmPb
import Derived.Test.YtllhbcpbihhdnaaGreatDoorQCmPc
import Derived.Test.YtllhbcpbihhdnaaGreatDoorQ5
set_option linter.unusedVariables false
set_option linter.unusedSimpArgs false
namespace Go.Proofs.YtllhbcpbihhdnaaGreatDoor
open Go.RowKit Go.Shelf Pm
set_option maxRecDepth 100000
theorem isE (l : List UInt8) : (Cm.tx l).toList.isEmpty = l.isEmpty := tx_empty l
namespace Cm
theorem print_of {c : Cmd} {e : Int} (h : line c = ([], e)) (he : e ≠ 0) : print c = ([], e) := by
  unfold print
  rw [h, if_pos he]
theorem print_len {c : Cmd} {l : List UInt8} (h : line c = (l, 0)) : print c = if 510 < l.length then ([], 3) else (l, 0) := by
  unfold print
  rw [h, if_neg (by simp)]
theorem line_kind {c : Cmd} (h : c.verb ∉ verbs) : line c = ([], 10) := by unfold line; rw [if_pos h]
end Cm
/-- What TrimRight makes of the joined texts. -/
theorem trim_joined (V K pt wt : ByteArray) (p : List UInt8) (hp : pt = Cm.tx p) (LL : List UInt8) (hLL : Cm.trimR (V.data.toList ++ K.data.toList ++ p ++ 32 :: wt.data.toList) = LL) (hz : V.size + K.size + pt.size + wt.size ≤ 1000000) (W : World) :
    Calls Tryz.prog 18 #[.string (V ++ K ++ pt ++ ⟨#[32]⟩ ++ wt), .string ⟨#[32]⟩] W fun e w' => e = .returned (.string (Cm.tx LL)) ∧ w' = W := by
  have h := Tryz.strings_TrimRight_one (V ++ K ++ pt ++ ⟨#[32]⟩ ++ wt) 32 (by decide) W (by simp only [ByteArray.size_append]; rw [show (⟨#[32]⟩ : ByteArray).size = 1 by rfl]; omega)
  subst hp
  rw [tail_eq V K p wt LL hLL] at h
  exact h
theorem len_cases (l : List UInt8) : (decide ((510 : Int) < ((Cm.tx l).size : Int)) = false ∧ (if 510 < l.length then (([] : List UInt8), (3 : Int)) else (l, 0)) = (l, 0)) ∨ (decide ((510 : Int) < ((Cm.tx l).size : Int)) = true ∧ (if 510 < l.length then (([] : List UInt8), (3 : Int)) else (l, 0)) = ([], 3)) := by
  rw [Cm.tx_size]
  by_cases h : 510 < l.length
  · exact .inr ⟨decide_eq_true (by omega), if_pos h⟩
  · exact .inl ⟨decide_eq_false (by omega), if_neg h⟩
set_option maxHeartbeats 2000000 in
theorem print_mail (arg lo dm : List UInt8) (ml : Ml) (rc : Rc) (hf : Cm.Fits ⟨Cm.vMAIL, arg, lo, dm, ml, rc⟩) (w : World) (hl : Lv w) : Calls Tryz.prog 10 #[.agg (⟨Cm.vMAIL, arg, lo, dm, ml, rc⟩ : Cm.Cmd).cells] w fun e w' => e = .returned (.tuple #[.string (Cm.tx (Cm.print ⟨Cm.vMAIL, arg, lo, dm, ml, rc⟩).1), .int .i64 (Cm.print ⟨Cm.vMAIL, arg, lo, dm, ml, rc⟩).2]) ∧ Below w.heap.size w w' := by
  have hml : Fit ml := hf.ml
  have henv : ml.right = 0 → ml.envid.size ≤ 100 := hf.env
  have hv : Cm.vMAIL ∈ Cm.verbs := by decide
  have hpp := fun W => pathPrint_any (Cm.tx lo) (Cm.tx dm) W
  unfold ptText at hpp
  rw [Cm.tx_data, Cm.tx_data] at hpp
  obtain ⟨pt, hpt⟩ : ∃ t, (if Pt.right lo dm = 0 then (⟨(Pt.text lo dm).toArray⟩ : ByteArray) else ⟨#[]⟩) = t := ⟨_, rfl⟩
  rw [hpt] at hpp
  have hpw := fun W (hW : Lv W) => printMail_ml ml hml W hW
  obtain ⟨wt, hwt⟩ : ∃ t, (if ml.right = 0 then ml.text else ⟨#[]⟩) = t := ⟨_, rfl⟩
  rw [hwt] at hpw
  have hz1 : pt.size ≤ 1000 := by
    rw [← hpt]
    split
    · rename_i h; have := text_len h; simpa [ByteArray.size] using this
    · decide
  have hz2 : wt.size ≤ 100000 := by
    rw [← hwt]
    split
    · rename_i h; exact text_size ml hml (henv h)
    · decide
  refine pm_all arg lo dm ml rc pt wt _ _ hpp hpw (by omega) hz2 _ _ ?_ w hl
  by_cases he : arg = [] ∧ rc = Rc.zero
  · obtain ⟨rfl, rfl⟩ := he
    refine .inr ⟨by rw [Cm.Cmd.eqb_self]; rfl, ?_⟩
    by_cases hb : dm = [] ∧ lo ≠ []
    · have hln : Cm.line ⟨Cm.vMAIL, [], lo, dm, ml, Rc.zero⟩ = ([], 2) := by unfold Cm.line; rw [if_neg (not_not_intro hv), if_pos rfl, if_pos (.inr (.inr hb))]
      rw [Cm.print_of hln (by decide)]
      exact .inl ⟨⟨by rw [isE, hb.1]; rfl, by rw [isE]; cases lo with | nil => exact absurd rfl hb.2 | cons _ _ => rfl⟩, rfl, rfl⟩
    · refine .inr ?_
      have hne : ¬ (([] : List UInt8) ≠ [] ∨ Rc.zero ≠ Rc.zero ∨ (dm = [] ∧ lo ≠ [])) := by rintro (q | q | q); exact q rfl; exact q rfl; exact hb q
      have hdl : (Cm.tx dm).toList.isEmpty = false ∨ ((Cm.tx dm).toList.isEmpty = true ∧ (Cm.tx lo).toList.isEmpty = true) := by
        rw [isE, isE]
        cases dm with
        | cons _ _ => exact .inl rfl
        | nil =>
          cases lo with
          | nil => exact .inr ⟨rfl, rfl⟩
          | cons _ _ => exact absurd ⟨rfl, by simp⟩ hb
      by_cases h1 : Pt.right lo dm = 0
      · refine .inr ?_
        by_cases h2 : ml.right = 0
        · refine .inr ?_
          obtain ⟨LL, hLL⟩ : ∃ LL, Cm.trimR (Cm.vMAIL ++ 32 :: (Cm.kFrom ++ Pt.text lo dm ++ 32 :: ml.text.data.toList)) = LL := ⟨_, rfl⟩
          have hln : Cm.line ⟨Cm.vMAIL, [], lo, dm, ml, Rc.zero⟩ = (LL, 0) := by
            unfold Cm.line
            rw [if_neg (not_not_intro hv), if_pos rfl, if_neg hne, if_neg (not_not_intro h1), if_neg (not_not_intro h2), ← hLL]
          rw [Cm.print_len hln]
          have htr := fun W => trim_joined ⟨#[77, 65, 73, 76]⟩ ⟨#[32, 70, 82, 79, 77, 58]⟩ pt wt (Pt.text lo dm) (by rw [← hpt, if_pos h1]; rfl) LL (by rw [← hwt, if_pos h2]; exact hLL) (by rw [show (⟨#[77, 65, 73, 76]⟩ : ByteArray).size = 4 by rfl, show (⟨#[32, 70, 82, 79, 77, 58]⟩ : ByteArray).size = 6 by rfl]; omega) W
          rcases len_cases LL with ⟨k1, k2⟩ | ⟨k1, k2⟩
          · rw [k2]; exact .inl ⟨hdl, h1, h2, Cm.tx LL, htr, k1, rfl, rfl⟩
          · rw [k2]; exact .inr ⟨hdl, h1, h2, Cm.tx LL, htr, k1, rfl, rfl⟩
        · have hln : Cm.line ⟨Cm.vMAIL, [], lo, dm, ml, Rc.zero⟩ = ([], ml.right) := by
            unfold Cm.line
            rw [if_neg (not_not_intro hv), if_pos rfl, if_neg hne, if_neg (not_not_intro h1), if_pos h2]
          rw [Cm.print_of hln h2]
          exact .inl ⟨hdl, h1, by simpa using h2, rfl, rfl⟩
      · have hln : Cm.line ⟨Cm.vMAIL, [], lo, dm, ml, Rc.zero⟩ = ([], Pt.right lo dm) := by
          unfold Cm.line
          rw [if_neg (not_not_intro hv), if_pos rfl, if_neg hne, if_pos h1]
        rw [Cm.print_of hln h1]
        exact .inl ⟨hdl, by simpa using h1, rfl, rfl⟩
  · refine .inl ⟨by rw [Cm.Cmd.eqb_ne (fun q => he (by simp only [Cm.Cmd.mk.injEq] at q; exact ⟨q.2.1, q.2.2.2.2.2⟩))]; rfl, ?_⟩
    have hor : arg ≠ [] ∨ rc ≠ Rc.zero ∨ (dm = [] ∧ lo ≠ []) := by
      by_cases q : arg = []
      · exact .inr (.inl fun q2 => he ⟨q, q2⟩)
      · exact .inl q
    have hln : Cm.line ⟨Cm.vMAIL, arg, lo, dm, ml, rc⟩ = ([], 2) := by unfold Cm.line; rw [if_neg (not_not_intro hv), if_pos rfl, if_pos hor]
    rw [Cm.print_of hln (by decide)]
    exact ⟨rfl, rfl⟩
set_option maxHeartbeats 2000000 in
theorem print_rcpt (arg lo dm : List UInt8) (ml : Ml) (rc : Rc) (hf : Cm.Fits ⟨Cm.vRCPT, arg, lo, dm, ml, rc⟩) (w : World) (hl : Lv w) : Calls Tryz.prog 10 #[.agg (⟨Cm.vRCPT, arg, lo, dm, ml, rc⟩ : Cm.Cmd).cells] w fun e w' => e = .returned (.tuple #[.string (Cm.tx (Cm.print ⟨Cm.vRCPT, arg, lo, dm, ml, rc⟩).1), .int .i64 (Cm.print ⟨Cm.vRCPT, arg, lo, dm, ml, rc⟩).2]) ∧ Below w.heap.size w w' := by
  have hkd : rc.kd.size ≤ 2000 := hf.kd
  have hoc : rc.oc.size ≤ 2000 := hf.oc
  have hv : Cm.vRCPT ∈ Cm.verbs := by decide
  have hM : Cm.vRCPT ≠ Cm.vMAIL := by decide
  have hpp := fun W => pathPrint_any (Cm.tx lo) (Cm.tx dm) W
  unfold ptText at hpp
  rw [Cm.tx_data, Cm.tx_data] at hpp
  obtain ⟨pt, hpt⟩ : ∃ t, (if Pt.right lo dm = 0 then (⟨(Pt.text lo dm).toArray⟩ : ByteArray) else ⟨#[]⟩) = t := ⟨_, rfl⟩
  rw [hpt] at hpp
  have hpw := fun W => printRcpt_rc rc hkd hoc W
  obtain ⟨wt, hwt⟩ : ∃ t, (if rc.right = 0 then rc.text else ⟨#[]⟩) = t := ⟨_, rfl⟩
  rw [hwt] at hpw
  have hz1 : pt.size ≤ 1000 := by
    rw [← hpt]
    split
    · rename_i h; have := text_len h; simpa [ByteArray.size] using this
    · decide
  have hz2 : wt.size ≤ 100000 := by
    rw [← hwt]
    split
    · exact rtext_size rc hkd hoc
    · decide
  refine pr_all arg lo dm ml rc pt wt _ _ hpp hpw _ (fun W => pathNull_any (Cm.tx lo) (Cm.tx dm) W) (by omega) hz2 _ _ ?_ w hl
  by_cases he : arg = [] ∧ ml = Ml.zero
  · obtain ⟨rfl, rfl⟩ := he
    refine .inr ⟨by rw [Cm.Cmd.eqb_self]; rfl, ?_⟩
    by_cases hb : dm = [] ∧ lo = []
    · have hln : Cm.line ⟨Cm.vRCPT, [], lo, dm, Ml.zero, rc⟩ = ([], 2) := by unfold Cm.line; rw [if_neg (not_not_intro hv), if_neg hM, if_pos rfl, if_pos (.inr (.inr hb))]
      rw [Cm.print_of hln (by decide)]
      exact .inl ⟨by rw [isE, isE, hb.1, hb.2]; rfl, rfl, rfl⟩
    · refine .inr ?_
      have hne : ¬ (([] : List UInt8) ≠ [] ∨ Ml.zero ≠ Ml.zero ∨ (dm = [] ∧ lo = [])) := by rintro (q | q | q); exact q rfl; exact q rfl; exact hb q
      have k : ((Cm.tx lo).toList.isEmpty && (Cm.tx dm).toList.isEmpty) = false := by
        rw [isE, isE]
        cases lo with
        | cons _ _ => rfl
        | nil =>
          cases dm with
          | nil => exact absurd ⟨rfl, rfl⟩ hb
          | cons _ _ => rfl
      by_cases h1 : Pt.right lo dm = 0
      · refine .inr ?_
        by_cases h2 : rc.right = 0
        · refine .inr ?_
          obtain ⟨LL, hLL⟩ : ∃ LL, Cm.trimR (Cm.vRCPT ++ 32 :: (Cm.kTo ++ Pt.text lo dm ++ 32 :: rc.text.data.toList)) = LL := ⟨_, rfl⟩
          have hln : Cm.line ⟨Cm.vRCPT, [], lo, dm, Ml.zero, rc⟩ = (LL, 0) := by
            unfold Cm.line
            rw [if_neg (not_not_intro hv), if_neg hM, if_pos rfl, if_neg hne, if_neg (not_not_intro h1), if_neg (not_not_intro h2), ← hLL]
          rw [Cm.print_len hln]
          have htr := fun W => trim_joined ⟨#[82, 67, 80, 84]⟩ ⟨#[32, 84, 79, 58]⟩ pt wt (Pt.text lo dm) (by rw [← hpt, if_pos h1]; rfl) LL (by rw [← hwt, if_pos h2]; exact hLL) (by rw [show (⟨#[82, 67, 80, 84]⟩ : ByteArray).size = 4 by rfl, show (⟨#[32, 84, 79, 58]⟩ : ByteArray).size = 4 by rfl]; omega) W
          rcases len_cases LL with ⟨k1, k2⟩ | ⟨k1, k2⟩
          · rw [k2]; exact .inl ⟨k, h1, h2, Cm.tx LL, htr, k1, rfl, rfl⟩
          · rw [k2]; exact .inr ⟨k, h1, h2, Cm.tx LL, htr, k1, rfl, rfl⟩
        · have hln : Cm.line ⟨Cm.vRCPT, [], lo, dm, Ml.zero, rc⟩ = ([], rc.right) := by
            unfold Cm.line
            rw [if_neg (not_not_intro hv), if_neg hM, if_pos rfl, if_neg hne, if_neg (not_not_intro h1), if_pos h2]
          rw [Cm.print_of hln h2]
          exact .inl ⟨k, h1, by simpa using h2, rfl, rfl⟩
      · have hln : Cm.line ⟨Cm.vRCPT, [], lo, dm, Ml.zero, rc⟩ = ([], Pt.right lo dm) := by
          unfold Cm.line
          rw [if_neg (not_not_intro hv), if_neg hM, if_pos rfl, if_neg hne, if_pos h1]
        rw [Cm.print_of hln h1]
        exact .inl ⟨k, by simpa using h1, rfl, rfl⟩
  · refine .inl ⟨by rw [Cm.Cmd.eqb_ne (fun q => he (by simp only [Cm.Cmd.mk.injEq] at q; exact ⟨q.2.1, q.2.2.2.2.1⟩))]; rfl, ?_⟩
    have hor : arg ≠ [] ∨ ml ≠ Ml.zero ∨ (dm = [] ∧ lo = []) := by
      by_cases q : arg = []
      · exact .inr (.inl fun q2 => he ⟨q, q2⟩)
      · exact .inl q
    have hln : Cm.line ⟨Cm.vRCPT, arg, lo, dm, ml, rc⟩ = ([], 2) := by unfold Cm.line; rw [if_neg (not_not_intro hv), if_neg hM, if_pos rfl, if_pos hor]
    rw [Cm.print_of hln (by decide)]
    exact ⟨rfl, rfl⟩
open Classical in
set_option maxHeartbeats 2000000 in
theorem print_other (v arg lo dm : List UInt8) (ml : Ml) (rc : Rc) (hv : v ∈ Cm.verbs) (hM : v ≠ Cm.vMAIL) (hR : v ≠ Cm.vRCPT) (hf : Cm.Fits ⟨v, arg, lo, dm, ml, rc⟩) (w : World) (hl : Lv w) : Calls Tryz.prog 10 #[.agg (⟨v, arg, lo, dm, ml, rc⟩ : Cm.Cmd).cells] w fun e w' => e = .returned (.tuple #[.string (Cm.tx (Cm.print ⟨v, arg, lo, dm, ml, rc⟩).1), .int .i64 (Cm.print ⟨v, arg, lo, dm, ml, rc⟩).2]) ∧ Below w.heap.size w w' := by
  have hz : v.length + arg.length ≤ 90000 := hf.arg
  have bM : ((Cm.tx v).toList == [77, 65, 73, 76]) = false := by rw [Lib.toList_data, Cm.tx_data]; exact beq_eq_false_iff_ne.2 hM
  have bR : ((Cm.tx v).toList == [82, 67, 80, 84]) = false := by rw [Lib.toList_data, Cm.tx_data]; exact beq_eq_false_iff_ne.2 hR
  obtain ⟨T, hT⟩ : ∃ T, v ++ (if arg = [] then [] else 32 :: arg) = T := ⟨_, rfl⟩
  have hTl : T.length ≤ 100000 := by rw [← hT]; split <;> simp <;> omega
  obtain ⟨p, hp⟩ : ∃ p, Cm.parse T = p := ⟨_, rfl⟩
  obtain ⟨pc, pe⟩ := p
  have hS : (Cm.tx arg).toList.isEmpty = true ∧ Cm.tx T = Cm.tx v ∨ (Cm.tx arg).toList.isEmpty = false ∧ Cm.tx T = Cm.tx v ++ (⟨#[32]⟩ ++ Cm.tx arg) := by
    rw [isE, ← hT]
    cases arg with
    | nil => exact .inl ⟨rfl, by simp⟩
    | cons x l => exact .inr ⟨rfl, by rw [if_neg (by simp)]; apply ByteArray.ext; simp [Cm.tx]⟩
  have hpa := fun W (hW : Lv W) => commandParse_any (Cm.tx T) (by rw [Cm.tx_size]; exact hTl) W hW
  rw [Cm.tx_data, hp] at hpa
  refine po_all v arg lo dm ml rc (decide_eq_true hv) bM bR hz (Cm.tx T) hS pc pe hpa _ rfl _ rfl _ _ ?_ w hl
  have hln : Cm.line ⟨v, arg, lo, dm, ml, rc⟩ = if lo ≠ [] ∨ dm ≠ [] ∨ ml ≠ Ml.zero ∨ rc ≠ Rc.zero ∨ (pc, pe) ≠ (⟨v, arg, lo, dm, ml, rc⟩, 0) then ([], 2) else (T, 0) := by
    unfold Cm.line
    rw [if_neg (not_not_intro hv), if_neg hM, if_neg hR]
    dsimp only
    rw [hT, hp]
  by_cases he : lo = [] ∧ dm = [] ∧ ml = Ml.zero ∧ rc = Rc.zero
  · obtain ⟨rfl, rfl, rfl, rfl⟩ := he
    refine .inr ⟨by rw [Cm.Cmd.eqb_self]; rfl, ?_⟩
    by_cases h0 : pe = 0
    · refine .inr ⟨h0, ?_⟩
      by_cases h3 : pc = ⟨v, arg, [], [], Ml.zero, Rc.zero⟩
      · rw [if_neg (by rintro (q | q | q | q | q); exact q rfl; exact q rfl; exact q rfl; exact q rfl; exact q (by rw [h0, h3]))] at hln
        rw [Cm.print_len hln]
        refine .inr ⟨by rw [h3, Cm.Cmd.eqb_self]; rfl, ?_⟩
        rcases len_cases T with ⟨k1, k2⟩ | ⟨k1, k2⟩
        · rw [k2]; exact .inl ⟨k1, rfl, rfl⟩
        · rw [k2]; exact .inr ⟨k1, rfl, rfl⟩
      · rw [if_pos (.inr (.inr (.inr (.inr fun q => h3 (congrArg Prod.fst q)))))] at hln
        rw [Cm.print_of hln (by decide)]
        exact .inl ⟨by rw [Cm.Cmd.eqb_ne h3]; rfl, rfl, rfl⟩
    · rw [if_pos (.inr (.inr (.inr (.inr fun q => h0 (congrArg Prod.snd q)))))] at hln
      rw [Cm.print_of hln (by decide)]
      exact .inl ⟨by simpa using h0, rfl, rfl⟩
  · have hor : lo ≠ [] ∨ dm ≠ [] ∨ ml ≠ Ml.zero ∨ rc ≠ Rc.zero ∨ (pc, pe) ≠ (⟨v, arg, lo, dm, ml, rc⟩, 0) := by
      by_cases q1 : lo = []
      · by_cases q2 : dm = []
        · by_cases q3 : ml = Ml.zero
          · exact .inr (.inr (.inr (.inl fun q4 => he ⟨q1, q2, q3, q4⟩)))
          · exact .inr (.inr (.inl q3))
        · exact .inr (.inl q2)
      · exact .inl q1
    rw [if_pos hor] at hln
    rw [Cm.print_of hln (by decide)]
    exact .inl ⟨by rw [Cm.Cmd.eqb_ne (fun q => he (by simp only [Cm.Cmd.mk.injEq] at q; exact ⟨q.2.2.1, q.2.2.2.1, q.2.2.2.2.1, q.2.2.2.2.2⟩))]; rfl, rfl, rfl⟩
theorem commandPrint_any (c : Cm.Cmd) (hf : Cm.Fits c) (w : World) (hl : Lv w) : Calls Tryz.prog 10 #[.agg c.cells] w fun e w' => e = .returned (.tuple #[.string (Cm.tx (Cm.print c).1), .int .i64 (Cm.print c).2]) ∧ Below w.heap.size w w' := by
  obtain ⟨v, arg, lo, dm, ml, rc⟩ := c
  by_cases hv : v ∈ Cm.verbs
  · by_cases hM : v = Cm.vMAIL
    · subst hM; exact print_mail arg lo dm ml rc hf w hl
    · by_cases hR : v = Cm.vRCPT
      · subst hR; exact print_rcpt arg lo dm ml rc hf w hl
      · exact print_other v arg lo dm ml rc hv hM hR hf w hl
  · have hln := Cm.line_kind (c := ⟨v, arg, lo, dm, ml, rc⟩) hv
    rw [Cm.print_of hln (by decide)]
    exact pr_kind v arg lo dm ml rc (decide_eq_false hv) w hl
end Go.Proofs.YtllhbcpbihhdnaaGreatDoor
