/-
  xtext.Decode: the walk.
-/
import Derived.Test.YtllhbcpbihhdnaaGreatDoorQ1
set_option linter.unusedVariables false
set_option linter.unusedSimpArgs false
namespace Go.Proofs.YtllhbcpbihhdnaaGreatDoor
open Go.RowKit
set_option maxRecDepth 100000
/-- Between two rounds: what was told of s. -/
def DecI (s : ByteArray) (rest : ByteArray) (out : List UInt8) (bad : Bool) : Prop := rest.size ≤ s.size ∧ out.length + rest.size ≤ s.size ∧ Tx.dec s.data.toList = if bad then none else (Tx.dec rest.data.toList).map (out ++ ·)
theorem text_cons {rest : ByteArray} {c : UInt8} {r : List UInt8} (h : rest.data.toList = c :: r) : (∃ hlt : 0 < rest.size, rest[0]'hlt = c) ∧ (rest.extract 1 rest.size).data.toList = r ∧ rest.size = (rest.extract 1 rest.size).size + 1 ∧ (rest.toList == []) = false := by
  have hl : rest.data.toList.length = rest.size := by simp
  rw [h] at hl
  simp at hl
  have hd : (rest.extract 1 rest.size).data.toList = r := by simp [h]; exact List.take_of_length_le (by omega)
  refine ⟨⟨by omega, ?_⟩, hd, ?_, by rw [Lib.toList_data, h]; rfl⟩
  · have : rest.data.toList[0]? = some c := by rw [h]; rfl
    rw [Array.getElem?_toList] at this
    have h2 := Array.getElem?_eq_getElem (xs := rest.data) (i := 0) (show 0 < rest.data.size from by change 0 < rest.size; omega)
    rw [h2] at this
    exact Option.some.inj this
  · have : (rest.extract 1 rest.size).data.toList.length = (rest.extract 1 rest.size).size := by simp
    rw [hd] at this
    omega
section
variable {s rest r1 r2 r3 : ByteArray} {out : List UInt8} {c a b : UInt8} {r : List UInt8}
theorem P43 : Txt.plain 43 = false := by decide
theorem DecI.plain (h : DecI s rest out false) (hr : rest.data.toList = c :: r) (h1 : r1.data.toList = r) (hz : rest.size = r1.size + 1) (hp : Txt.plain c = true) : DecI s r1 (out ++ [c]) false := by
  obtain ⟨i1, i2, i3⟩ := h
  refine ⟨by omega, by simp; omega, ?_⟩
  rw [i3, hr, h1]
  simp [Tx.dec_cons, hp]
  cases Tx.dec r <;> simp
theorem DecI.other (h : DecI s rest out false) (hr : rest.data.toList = c :: r) (hz : rest.size = r1.size + 1) (hp : Txt.plain c = false) (hc : c ≠ 43) : DecI s r1 out true := by
  obtain ⟨i1, i2, i3⟩ := h
  refine ⟨by omega, by omega, ?_⟩
  rw [i3, hr]
  simp only [Tx.dec_cons, hp, hc, if_true, if_false, Bool.false_eq_true, if_neg, Option.map_none]
theorem DecI.plus0 (h : DecI s rest out false) (hr : rest.data.toList = c :: []) (hz : rest.size = r1.size + 1) (hp : Txt.plain c = false) (hc : c = 43) (x : UInt8) : DecI s r1 (out ++ [x]) true := by
  obtain ⟨i1, i2, i3⟩ := h
  refine ⟨by omega, by simp; omega, ?_⟩
  rw [i3, hr]
  subst_vars
  simp only [Tx.dec_cons, hp, P43, if_true, if_false, Bool.false_eq_true, if_neg, Option.map_none]
theorem DecI.plus1 (h : DecI s rest out false) (hr : rest.data.toList = c :: [a]) (hz : rest.size = r1.size + 1) (hz2 : r1.size = r2.size + 1) (hp : Txt.plain c = false) (hc : c = 43) (x : UInt8) : DecI s r2 (out ++ [x]) true := by
  obtain ⟨i1, i2, i3⟩ := h
  refine ⟨by omega, by simp; omega, ?_⟩
  rw [i3, hr]
  subst_vars
  simp only [Tx.dec_cons, hp, P43, if_true, if_false, Bool.false_eq_true, if_neg, Option.map_none]
theorem DecI.plus2 (h : DecI s rest out false) (hr : rest.data.toList = c :: a :: b :: r) (hz : rest.size = r1.size + 1) (hz2 : r1.size = r2.size + 1) (hz3 : r2.size = r3.size + 1) (h3 : r3.data.toList = r) (hp : Txt.plain c = false) (hc : c = 43) (m n v : UInt8) (hm : (m.toNat : Int) = max (Tx.unhex a) 0) (hn : (n.toNat : Int) = max (Tx.unhex b) 0)
    (hv : v.toNat = 16 * m.toNat + n.toNat) : DecI s r3 (out ++ [v]) (decide (Tx.unhex a < 0) || decide (Tx.unhex b < 0)) := by
  obtain ⟨i1, i2, i3⟩ := h
  refine ⟨by omega, by simp; omega, ?_⟩
  rw [i3, hr, h3]
  have hp43 : Txt.plain 43 = false := by decide
  subst hc
  by_cases ha : Tx.unhex a < 0
  · have : ¬ (0 ≤ Tx.unhex a ∧ 0 ≤ Tx.unhex b) := by omega
    simp [Tx.dec_cons, hp43, ha, this]
  · by_cases hb : Tx.unhex b < 0
    · have : ¬ (0 ≤ Tx.unhex a ∧ 0 ≤ Tx.unhex b) := by omega
      simp [Tx.dec_cons, hp43, ha, hb, this]
    · have h2 : 0 ≤ Tx.unhex a ∧ 0 ≤ Tx.unhex b := by omega
      have hvv : UInt8.ofNat (16 * (Tx.unhex a).toNat + (Tx.unhex b).toNat) = v := by
        apply UInt8.toNat_inj.1
        have := v.toNat_lt
        rw [UInt8.toNat_ofNat', show (Tx.unhex a).toNat = m.toNat by omega, show (Tx.unhex b).toNat = n.toNat by omega, ← hv]
        omega
      simp only [Tx.dec_cons, hp43, h2, hvv, ha, hb]
      simp
      cases Tx.dec r <;> simp
end
theorem DcS.start (s : ByteArray) (w : World) : DcS w s [] false (((w.alloc (.cells #[.string s] 9)).alloc (.cells #[.pointer none, .slice none 0 0] 94)).alloc (.cells #[.bool false] 4)) :=
  ⟨(((Below.refl _ w).alloc (Nat.le_refl _) _).alloc (by simp) _).alloc (by simp; omega) _, ((Blk.new _ _).old _).old _, (Bd.new (by omega) (by simpa using (Blk.new (w := w.alloc (.cells #[.string s] 9)) #[.pointer none, .slice none 0 0] 94).old (.cells #[.bool false] 4))), by simpa using Blk.new (w := (w.alloc (.cells #[.string s] 9)).alloc (.cells #[.pointer none, .slice none 0 0] 94)) #[.bool false] 4⟩
theorem nibble (c : UInt8) : ∃ n : UInt8, (n.toNat : Int) = max (Tx.unhex c) 0 ∧ n.toNat ≤ 15 := by
  have := Tx.unhex_lt c
  refine ⟨UInt8.ofNat (max (Tx.unhex c) 0).toNat, ?_, ?_⟩
  · rw [UInt8.toNat_ofNat']; omega
  · rw [UInt8.toNat_ofNat']; omega
theorem nib_all : ∀ k : Fin 16, ∀ j : Fin 16, bits BinOp.or IntKind.u8 (bits BinOp.or IntKind.u8 0 ((k.val : Nat) : Int) * 16 % 256) ((j.val : Nat) : Int) = ((16 * k.val + j.val : Nat) : Int) := of_decide_eq_true (by kernel_rfl)
theorem nibbles (m n : UInt8) (hm : m.toNat ≤ 15) (hn : n.toNat ≤ 15) : ∃ v : UInt8, v.toNat = 16 * m.toNat + n.toNat ∧ bits BinOp.or IntKind.u8 (bits BinOp.or IntKind.u8 0 (m.toNat : Int) * 16 % 256) (n.toNat : Int) = (v.toNat : Int) := by
  have h := nib_all ⟨m.toNat, by omega⟩ ⟨n.toNat, by omega⟩
  have hv : (UInt8.ofNat (16 * m.toNat + n.toNat)).toNat = 16 * m.toNat + n.toNat := by rw [UInt8.toNat_ofNat']; omega
  exact ⟨_, hv, by rw [hv]; exact h⟩
set_option maxHeartbeats 8000000 in
theorem decode_any (s : ByteArray) (w : World) (hs : s.size ≤ 100000000) :
    Calls Tryz.prog 91 #[.string s] w fun e w' => e = .returned (.tuple #[.string ⟨((Tx.dec s.data.toList).getD []).toArray⟩, .int .i64 (if (Tx.dec s.data.toList).isSome then 0 else 2)]) ∧ Below w.heap.size w w' := by
  obtain ⟨TT, hT⟩ : ∃ TT : ByteArray, TT = ⟨((Tx.dec s.data.toList).getD []).toArray⟩ := ⟨_, rfl⟩
  obtain ⟨NN, hN⟩ : ∃ NN : Int, NN = (if (Tx.dec s.data.toList).isSome then 0 else 2) := ⟨_, rfl⟩
  rw [← hT, ← hN]
  have HT := Lib.hid hT
  have HN := Lib.hid hN
  clear hT hN
  have HD := Aside.mk (DcS.start s w)
  go_enter Tryz.func91, Tryz.ntmps91
  go_wp2
  generalize (((w.alloc (.cells #[.string s] 9)).alloc (.cells #[.pointer none, .slice none 0 0] 94)).alloc (.cells #[.bool false] 4)) = W at HD ⊢
  go_loopw [7] (fun _ wr => ∃ (rest : ByteArray) (out : List UInt8) (bad : Bool), DcS w rest out bad wr ∧ DecI s rest out bad) (fun _ wr => dcLeft w.heap.size wr)
  case atStart => exact ⟨s, [], false, HD.out, Nat.le_refl _, by simp, by simp⟩
  case round =>
    clear HD
    obtain ⟨rest, out, bad, hD, hI⟩ := hrel
    have D := Aside.mk hD
    have I := Aside.mk hI
    clear hD hI
    have z0 := D.out.txt.cell 0 _ rfl
    have y0 := D.out.txt.free 0
    have z2 := D.out.bad.cell 0 _ rfl
    have y2 := D.out.bad.free 0
    cases bad with
    | true =>
      have hI := Lib.hid (show Tx.dec s.data.toList = none from I.out.2.2)
      cases he : (rest.toList == []) with
      | true =>
        go_wp2
        go_ret2
        exact ⟨by rw [HT.out, HN.out, hI.out]; rfl, D.out.low⟩
      | false =>
        go_wp2
        go_ret2
        exact ⟨by rw [HT.out, HN.out, hI.out]; rfl, D.out.low⟩
    | false =>
      cases hr : rest.data.toList with
      | nil =>
        have he : (rest.toList == []) = true := by rw [Lib.toList_data, hr]; rfl
        have hI : Hid (Tx.dec s.data.toList = some out) := Lib.hid (by have := I.out.2.2; rw [hr] at this; simpa [Tx.dec] using this)
        go_wp2_with (go_at_call 69; (with_reducible refine (string_any _ _ _ _ _ D.out.bld (Nat.le_succ _)).mono ?_); rintro e w2 ⟨rfl, hb⟩)
        go_ret2
        exact ⟨by rw [HT.out, HN.out, hI.out]; rfl, Below.trans D.out.low (hb.mono (by omega))⟩
      | cons c r =>
        obtain ⟨⟨hlt, hg⟩, hd, hz, he⟩ := text_cons hr
        have Hz := Lib.hid hz
        have Hd := Lib.hid hd
        have Hr := Lib.hid hr
        clear hz hd hr
        obtain ⟨r1, hr1⟩ : ∃ r1, rest.extract 1 rest.size = r1 := ⟨_, rfl⟩
        rw [hr1] at Hz Hd
        have L := Aside.mk D.out.left
        cases hp : Txt.plain c with
        | true =>
          have hpl := fun W => plain_any c W
          rw [hp] at hpl
          have hl1 := Aside.mk (show out.length ≤ 1000000000 from by have := I.out.2.1; omega)
          go_wp2_with (first | (go_at_call 107; (with_reducible refine (hpl _).mono ?_); rintro e w' ⟨rfl, hw⟩; have hw' := hw.symm; clear hw; subst hw') | (go_at_call 68; (with_reducible refine (writeByte_any _ _ _ c _ (D.out.setT _).bld hl1.out (D.out.setT _).size).mono ?_); rintro e w2 ⟨rfl, hb, hch⟩; replace D := Aside.mk ((D.out.setT _).wrote hb hch); clear hb hch))
          go_roundw
          case rel => exact ⟨r1, out ++ [c], false, D.out, I.out.plain Hr.out Hd.out Hz.out hp⟩
          case measure => rw [D.out.left, L.out]; have := Hz.out; omega
        | false =>
          have hpl := fun W => plain_any c W
          rw [hp] at hpl
          by_cases h43 : c = 43
          · have hcb : (((c.toNat : Int)) == 43) = true := by rw [h43]; rfl
            have H43 := Lib.hid h43
            clear h43
            have D1 := Aside.mk (D.out.setT r1)
            have hl1 := Aside.mk (show out.length ≤ 1000000000 from by have := I.out.2.1; omega)
            cases r with
            | nil =>
              have E0 := Aside.mk Hd.out
              go_wp2_with (first | (go_at_call 107; (with_reducible refine (hpl _).mono ?_); rintro e w' ⟨rfl, hw⟩; have hw' := hw.symm; clear hw; subst hw'))
              have HV := Lib.hid (show bits BinOp.or IntKind.u8 (bits BinOp.or IntKind.u8 0 0 * 16 % 256) 0 = ((0 : UInt8).toNat : Int) from by kernel_rfl)
              refine wp_loop_rounds 3 ?_
              rw [rounds_succ]
              go_wp2_with (go_at_call 120; (with_reducible refine (digit_nil D1.out E0.out).mono ?_); rintro e w2 ⟨rfl, hb⟩; replace D1 := Aside.mk hb; clear hb)
              rw [rounds_succ]
              go_wp2_with (go_at_call 120; (with_reducible refine (digit_nil D1.out E0.out).mono ?_); rintro e w2 ⟨rfl, hb⟩; replace D1 := Aside.mk hb; clear hb)
              rw [rounds_succ]
              go_wp2_with (go_at_call 68; (with_reducible refine (writeByte_n _ _ out 0 _ D1.out.bld hl1.out D1.out.size _ HV.out).mono ?_); rintro e w2 ⟨rfl, hb, hch⟩; replace D1 := Aside.mk (D1.out.wrote hb hch); clear hb hch)
              go_roundw
              case rel => exact ⟨r1, out ++ [0], true, D1.out, I.out.plus0 Hr.out Hz.out hp H43.out 0⟩
              case measure => rw [D1.out.left, L.out]; have := Hz.out; (try have := Hz2.out); (try have := Hz3.out); omega
            | cons a r =>
              obtain ⟨⟨hlt2, hg2⟩, hd2, hz2, he2⟩ := text_cons Hd.out
              obtain ⟨r2, hr2⟩ : ∃ r2, r1.extract 1 r1.size = r2 := ⟨_, rfl⟩
              rw [hr2] at hz2 hd2
              have Hz2 := Lib.hid hz2
              have Hd2 := Lib.hid hd2
              obtain ⟨m, hm, hm15⟩ := nibble a
              have Hm := Lib.hid hm
              have E1 := Aside.mk (show r1.data.toList = a :: r2.data.toList from by rw [Hd.out, hd2])
              have S1 := Aside.mk (show r1.size ≤ 1000000000 from by have := I.out.1; have := Hz.out; omega)
              clear hz2 hd2 hm hlt2 hg2 he2 hr2
              cases r with
              | nil =>
                have E0 := Aside.mk Hd2.out
                obtain ⟨v, hv1, hv2⟩ := nibbles m 0 hm15 (by decide)
                have HV := Lib.hid (show bits BinOp.or IntKind.u8 (bits BinOp.or IntKind.u8 0 (m.toNat : Int) * 16 % 256) 0 = (v.toNat : Int) from hv2)
                clear hv2
                go_wp2_with (first | (go_at_call 107; (with_reducible refine (hpl _).mono ?_); rintro e w' ⟨rfl, hw⟩; have hw' := hw.symm; clear hw; subst hw'))
                refine wp_loop_rounds 3 ?_
                rw [rounds_succ]
                go_wp2_with (go_at_call 120; (with_reducible refine (digit_cons D1.out a E1.out S1.out m Hm.out).mono ?_); rintro e w2 ⟨rfl, hb⟩; replace D1 := Aside.mk hb; clear hb)
                rw [rounds_succ]
                go_wp2_with (go_at_call 120; (with_reducible refine (digit_nil D1.out E0.out).mono ?_); rintro e w2 ⟨rfl, hb⟩; replace D1 := Aside.mk hb; clear hb)
                rw [rounds_succ]
                go_wp2_with (go_at_call 68; (with_reducible refine (writeByte_n _ _ out v _ D1.out.bld hl1.out D1.out.size _ HV.out).mono ?_); rintro e w2 ⟨rfl, hb, hch⟩; replace D1 := Aside.mk (D1.out.wrote hb hch); clear hb hch)
                go_roundw
                case rel => exact ⟨r2, out ++ [v], true, D1.out, I.out.plus1 Hr.out Hz.out Hz2.out hp H43.out v⟩
                case measure => rw [D1.out.left, L.out]; have := Hz.out; (try have := Hz2.out); (try have := Hz3.out); omega
              | cons b r =>
                obtain ⟨⟨hlt3, hg3⟩, hd3, hz3, he3⟩ := text_cons Hd2.out
                obtain ⟨r3, hr3⟩ : ∃ r3, r2.extract 1 r2.size = r3 := ⟨_, rfl⟩
                rw [hr3] at hz3 hd3
                have Hz3 := Lib.hid hz3
                have Hd3 := Lib.hid hd3
                obtain ⟨n, hn, hn15⟩ := nibble b
                have Hn := Lib.hid hn
                have E2 := Aside.mk (show r2.data.toList = b :: r3.data.toList from by rw [Hd2.out, hd3])
                have S2 := Aside.mk (show r2.size ≤ 1000000000 from by have := S1.out; have := Hz2.out; omega)
                clear hz3 hd3 hn hlt3 hg3 he3 hr3
                obtain ⟨v, hv1, hv2⟩ := nibbles m n hm15 hn15
                have HV := Lib.hid hv2
                have HV1 := Lib.hid hv1
                clear hv2 hv1
                go_wp2_with (first | (go_at_call 107; (with_reducible refine (hpl _).mono ?_); rintro e w' ⟨rfl, hw⟩; have hw' := hw.symm; clear hw; subst hw'))
                refine wp_loop_rounds 3 ?_
                rw [rounds_succ]
                go_wp2_with (go_at_call 120; (with_reducible refine (digit_cons D1.out a E1.out S1.out m Hm.out).mono ?_); rintro e w2 ⟨rfl, hb⟩; replace D1 := Aside.mk hb; clear hb)
                rw [rounds_succ]
                go_wp2_with (go_at_call 120; (with_reducible refine (digit_cons D1.out b E2.out S2.out n Hn.out).mono ?_); rintro e w2 ⟨rfl, hb⟩; replace D1 := Aside.mk hb; clear hb)
                rw [rounds_succ]
                go_wp2_with (go_at_call 68; (with_reducible refine (writeByte_n _ _ out v _ D1.out.bld hl1.out D1.out.size _ HV.out).mono ?_); rintro e w2 ⟨rfl, hb, hch⟩; replace D1 := Aside.mk (D1.out.wrote hb hch); clear hb hch)
                go_roundw
                case rel => exact ⟨r3, out ++ [v], _, D1.out, I.out.plus2 Hr.out Hz.out Hz2.out Hz3.out Hd3.out hp H43.out m n v Hm.out Hn.out HV1.out⟩
                case measure => rw [D1.out.left, L.out]; have := Hz.out; (try have := Hz2.out); (try have := Hz3.out); omega
          · have hcb : (((c.toNat : Int)) == 43) = false := by
              have : c.toNat ≠ 43 := fun e => h43 (UInt8.toNat_inj.1 e)
              simp; omega
            go_wp2_with (first | (go_at_call 107; (with_reducible refine (hpl _).mono ?_); rintro e w' ⟨rfl, hw⟩; have hw' := hw.symm; clear hw; subst hw'))
            go_roundw
            case rel => exact ⟨r1, out, true, (D.out.setT r1).setB true, I.out.other Hr.out Hz.out hp h43⟩
            case measure => rw [((D.out.setT r1).setB true).left, L.out]; have := Hz.out; omega
end Go.Proofs.YtllhbcpbihhdnaaGreatDoor
