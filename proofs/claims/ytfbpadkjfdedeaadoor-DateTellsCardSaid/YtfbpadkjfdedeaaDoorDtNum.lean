/-
  Lemmas on the way to the date laws (DtNum): what each function does, walked once, and plain laws of dates.
-/
import Derived.Test.YtfbpadkjfdedeaaDoorMem
import Derived.Test.YtfbpadkjfdedeaaDoorDtCal
import Derived.Test.YtfbpadkjfdedeaaDoorShelf
import Derived.Test.YtfbpadkjfdedeaaDoorRows
set_option linter.unusedVariables false
set_option linter.unusedSimpArgs false
namespace Go.Proofs.YtfbpadkjfdedeaaDoor
open Go.RowKit
set_option maxRecDepth 100000
theorem num_short (ps pb : Nat) (s : ByteArray) (b : Bool) (size : Nat) (beh : ByteArray) (w : World)
    (hs : One w ps (.string s) 9) (hb : One w pb (.bool b) 4) (hsz : size ≤ 4) (hne : ps ≠ pb) (hlt : s.size < size) :
    Calls Tryd.prog 25 #[.int .i64 size, .string beh, .pointer (some ⟨ps, 0, none⟩), .pointer (some ⟨pb, 0, none⟩)] w fun e w' =>
      e = .returned (.int .i64 0) ∧ One w' ps (.string s) 9 ∧ One w' pb (.bool true) 4 ∧ Chg (· = pb) w w' := by
  have cs := cell_of_one hs
  have cb := cell_of_one hb
  have fb := free_of_one hb
  have h1 : decide (s.size < size) = true := by simpa using hlt
  go_enter Tryd.func25, Tryd.ntmps25
  go_wp2
  go_ret
  exact ⟨rfl, hs.setOther _ hne, hb.set, (Chg.refl (· = pb) w).setCell (p := ⟨pb, 0, none⟩) (fun _ => rfl) _⟩
theorem num_long (ps pb : Nat) (s : ByteArray) (b : Bool) (size : Nat) (beh : ByteArray) (w : World)
    (hs : One w ps (.string s) 9) (hb : One w pb (.bool b) 4) (hsz : size ≤ 4) (hne : ps ≠ pb) (hlt : size ≤ s.size) :
    Calls Tryd.prog 25 #[.int .i64 size, .string beh, .pointer (some ⟨ps, 0, none⟩), .pointer (some ⟨pb, 0, none⟩)] w fun e w' =>
      e = .returned (.int .i64 (DtCal.num s.data.toList b size beh.data.toList).1) ∧ One w' ps (.string ⟨(DtCal.num s.data.toList b size beh.data.toList).2.1.toArray⟩) 9 ∧ One w' pb (.bool (DtCal.num s.data.toList b size beh.data.toList).2.2) 4 ∧ Chg (fun k => k = ps ∨ k = pb) w w' := by
  have cs := cell_of_one hs
  have cb := cell_of_one hb
  have fb := free_of_one hb
  have fs := free_of_one hs
  have h1 : decide (s.size < size) = false := by simpa using hlt
  have kb := fun W => Lib.run_convert_string_bytes (P := Tryd.prog) W 9 46 5 (s.extract 0 size) Tryd.underlying9 Tryd.underlying46 Tryd.underlying5
  go_enter Tryd.func25, Tryd.ntmps25
  go_wp2
  have hds : s.data.toList.length = s.size := by simp
  have hbsz : w.heap.size < (Lib.bytesWorld w 5 (s.extract 0 size)).heap.size := by rw [Lib.bytesWorld_size]; omega
  have hpsl := lt_of_block hs
  have hpbl := lt_of_block hb
  have hext : (s.extract 0 size).data.toList = s.data.toList.take size := by rw [Lib.extract_data]; simp
  go_loopw [7, 21] (fun n i wr => ∃ k : Nat, k ≤ size ∧ i = .int .i64 k ∧ n = .int .i64 (DtCal.dec (s.data.toList.take k)) ∧
      One wr ps (.string s) 9 ∧ One wr pb (.bool (b || (s.data.toList.take k).any (fun c => !DtCal.digit c))) 4 ∧ Chg (fun q => q = ps ∨ q = pb) w wr ∧
      Hid (∀ j, j < size → wr.cell? ⟨w.heap.size, j, none⟩ = some (.int .u8 (s.data.toList.getD j 0).toNat)) ∧ w.heap.size < wr.heap.size)
    (fun _ i _ => size - (intOf i).toNat)
  case atStart =>
    refine ⟨0, by omega, rfl, rfl, hs.bytes _ _, by simpa using hb.bytes _ _, (Chg.refl _ w).bytes _ _, fun j hj => ?_, hbsz⟩
    rw [Lib.bytesWorld_cell _ _ _ _ (by simp; omega), hext]
    simp [List.getD_eq_getElem?_getD, hj]
  case round =>
    obtain ⟨k, hk, rfl, rfl, hs1, hb1, hch, hcell, hsize⟩ := hrel
    have cs := cell_of_one hs1
    have cb := cell_of_one hb1
    have fb := free_of_one hb1
    have fs := free_of_one hs1
    have hd := DtCal.dec_bound (s.data.toList.take k) (by simp; omega)
    by_cases hlt : k < size
    · have hc := hcell.out k hlt
      have hkl : k < s.data.toList.length := by simp; omega
      have HT := Lib.hid (DtCal.take_snoc s.data.toList k hkl)
      have hg : s.data.toList.getD k 0 = s.data.toList[k] := by rw [List.getD_eq_getElem?_getD, List.getElem?_eq_getElem hkl]; rfl
      rw [hg] at hc
      generalize hcv : s.data.toList[k] = c at hc HT
      have hcr := c.toNat_lt
      clear hcv hg
      generalize hbb : (b || (s.data.toList.take k).any fun c => !DtCal.digit c) = bb at hb1 cb
      have HBB := Lib.hid hbb
      clear hbb
      have fin : ∀ (wr' : World), One wr' ps (.string s) 9 → One wr' pb (.bool (bb || !DtCal.digit c)) 4 → Chg (fun q => q = ps ∨ q = pb) w wr' →
          (∀ j, j < size → wr'.cell? ⟨w.heap.size, j, none⟩ = some (.int .u8 (s.data.toList.getD j 0).toNat)) → w.heap.size < wr'.heap.size →
          ∃ k' : Nat, k' ≤ size ∧ Value.int .i64 (↑k + 1) = .int .i64 k' ∧ Value.int .i64 (10 * DtCal.dec (s.data.toList.take k) + ↑c.toNat - 48) = .int .i64 (DtCal.dec (s.data.toList.take k')) ∧
      One wr' ps (.string s) 9 ∧ One wr' pb (.bool (b || (s.data.toList.take k').any (fun c => !DtCal.digit c))) 4 ∧ Chg (fun q => q = ps ∨ q = pb) w wr' ∧
      Hid (∀ j, j < size → wr'.cell? ⟨w.heap.size, j, none⟩ = some (.int .u8 (s.data.toList.getD j 0).toNat)) ∧ w.heap.size < wr'.heap.size := by
        intro wr' a1 a2 a3 a4 a5
        refine ⟨k + 1, by omega, by simp, by rw [HT.out, DtCal.dec_snoc], a1, ?_, a3, a4, a5⟩
        rw [HT.out, List.any_append]
        simpa [← Bool.or_assoc, HBB.out] using a2
      have hsame : ∀ v, (∀ j, j < size → (wr.setCell ⟨pb, 0, none⟩ v).cell? ⟨w.heap.size, j, none⟩ = some (.int .u8 (s.data.toList.getD j 0).toNat)) := fun v j hj => by
        rw [World.cell?_setCell_other _ _ _ _ (by intro e; have := congrArg Addr.block e; simp only at this; omega)]; exact hcell.out j hj
      have hsz2 : ∀ v, w.heap.size < (wr.setCell ⟨pb, 0, none⟩ v).heap.size := fun v => by simpa [World.setCell] using hsize
      clear HT HBB
      have H1 := Lib.hid hsame
      have H2 := Lib.hid fin
      clear hsame fin
      have h48 : DtCal.digit c = decide (48 ≤ (c.toNat : Int) ∧ (c.toNat : Int) ≤ 57) := by
        unfold DtCal.digit; rw [Bool.eq_iff_iff]; simp only [Bool.and_eq_true, decide_eq_true_eq]; omega
      have H3 := Lib.hid h48
      clear h48
      go_wp2
      all_goals
        go_roundw
        case measure => simp [intOf]; omega
        case rel =>
          refine H2.out _ (hs1.setOther _ hne) ?_ (hch.setCell (p := ⟨pb, 0, none⟩) (fun _ => Or.inr rfl) _) (H1.out _) (hsz2 _)
          rw [H3.out]
          refine Eq.trans (hb1.set) ?_
          congr 4
          cases bb
          · first
            | (exfalso; exact Bool.noConfusion ‹false = true›)
            | (congr 1; rw [Bool.eq_iff_iff]; simp; done)
            | (congr 1; rw [Bool.eq_iff_iff]; simp; omega)
          · first | (exfalso; exact ‹¬true = true› rfl) | (simp; done) | (simp; omega)
    · have hke : k = size := by omega
      subst hke
      generalize hbb : (b || (s.data.toList.take k).any fun c => !DtCal.digit c) = bb at hb1 cb
      have HBB := Lib.hid hbb
      clear hbb
      have HTK := Lib.hid (show List.take (s.size - k) (List.drop k s.data.toList) = s.data.toList.drop k from List.take_of_length_le (by simp))
      go_wp2_with (go_at_call 26; refine (Tryd.strings_CutPrefix _ _ _).mono ?_; rintro e w' ⟨rfl, rfl⟩)
      all_goals
        go_ret
        have hnum : DtCal.num s.data.toList b k beh.data.toList = (DtCal.dec (s.data.toList.take k), Lib.trimPrefix (s.data.toList.drop k) beh.data.toList, bb || !Lib.hasPrefix (s.data.toList.drop k) beh.data.toList) := by
          unfold DtCal.num; rw [if_neg (by omega), HBB.out]; rfl
        rw [hnum]
        refine ⟨rfl, ?_, ?_, ((hch.setCell (p := ⟨pb, 0, none⟩) (fun _ => Or.inr rfl) _).setCell (p := ⟨ps, 0, none⟩) (fun _ => Or.inl rfl) _)⟩
        · rw [HTK.out]; exact (hs1.setOther _ hne).set
        · rw [HTK.out]
          refine Eq.trans (One.setOther hb1.set _ (Ne.symm hne)) ?_
          congr 4
          cases bb <;> simp_all
/-- Both in one; what comes out under names. -/
theorem num_any (ps pb : Nat) (s : ByteArray) (b : Bool) (size : Nat) (beh : ByteArray) (w : World) (n : Int) (s' : List UInt8) (b' : Bool)
    (hs : One w ps (.string s) 9) (hb : One w pb (.bool b) 4) (hn : Hid (DtCal.num s.data.toList b size beh.data.toList = (n, s', b'))) (hsz : size ≤ 4) (hne : ps ≠ pb) :
    Calls Tryd.prog 25 #[.int .i64 size, .string beh, .pointer (some ⟨ps, 0, none⟩), .pointer (some ⟨pb, 0, none⟩)] w fun e w' =>
      e = .returned (.int .i64 n) ∧ Aside (One w' ps (.string ⟨s'.toArray⟩) 9 ∧ One w' pb (.bool b') 4 ∧ Chg (fun k => k = ps ∨ k = pb) w w') := by
  have hl : s.data.toList.length = s.size := by simp
  by_cases h : s.size < size
  · have e := hn.out
    unfold DtCal.num at e
    rw [if_pos (by omega)] at e
    injection e with e1 e2
    injection e2 with e2 e3
    subst e1 e2 e3
    exact (num_short ps pb s b size beh w hs hb hsz hne h).mono fun e w' ⟨a, b, c, d⟩ => ⟨a, ⟨b, c, d.mono fun _ _ h => Or.inr h⟩⟩
  · refine (num_long ps pb s b size beh w hs hb hsz hne (by omega)).mono ?_
    rw [hn.out]
    exact fun e w' ⟨a, b, c, d⟩ => ⟨a, ⟨b, c, d⟩⟩
theorem num_z (ps pb : Nat) (s : ByteArray) (b : Bool) (z : Int) (beh : ByteArray) (w : World) (n : Int) (s' : List UInt8) (b' : Bool)
    (hs : One w ps (.string s) 9) (hb : One w pb (.bool b) 4) (hn : Hid (DtCal.num s.data.toList b z.toNat beh.data.toList = (n, s', b'))) (hz : 0 ≤ z ∧ z ≤ 4) (hne : ps ≠ pb) :
    Calls Tryd.prog 25 #[.int .i64 z, .string beh, .pointer (some ⟨ps, 0, none⟩), .pointer (some ⟨pb, 0, none⟩)] w fun e w' =>
      e = .returned (.int .i64 n) ∧ Aside (One w' ps (.string ⟨s'.toArray⟩) 9 ∧ One w' pb (.bool b') 4 ∧ Chg (fun k => k = ps ∨ k = pb) w w') := by
  obtain ⟨k, rfl⟩ := Int.eq_ofNat_of_zero_le hz.1
  exact num_any ps pb s b k beh w n s' b' hs hb hn (by omega) hne
/-- What stands while a text is parsed: the text and the fault in their blocks; other blocks of the call's own. -/
structure St (w : World) (s : ByteArray) (b : Bool) (L : List (Nat × Array Value × TypeId)) (W : World) : Prop where
  str : One W w.heap.size (.string s) 9
  bad : One W (w.heap.size + 1) (.bool b) 4
  low : Below w.heap.size w W
  size : w.heap.size + 2 ≤ W.heap.size
  own : ∀ x ∈ L, w.heap.size + 2 ≤ x.1 ∧ Blk W x.1 x.2.1 x.2.2
theorem St.start (w : World) (s : ByteArray) : St w s false [] ((w.alloc (.cells #[.string s] 9)).alloc (.cells #[.bool false] 4)) := by
  refine ⟨One.old (One.alloc _ _) _, ?_, ((Below.refl _ _).alloc (Nat.le_refl _) _).alloc (by simp) _, by simp, fun x h => by cases h⟩
  have O2 := One.alloc (w := w.alloc (.cells #[.string s] 9 (0, 0))) (.bool false) 4
  simpa only [World.size_alloc] using O2
theorem St.alloc {w : World} {s : ByteArray} {b : Bool} {L : List (Nat × Array Value × TypeId)} {W : World} (h : St w s b L W) (cs : Array Value) (t : TypeId) :
    St w s b ((W.heap.size, cs, t) :: L) (W.alloc (.cells cs t)) :=
  ⟨h.str.old _, h.bad.old _, h.low.alloc (by have := h.size; omega) _, by have := h.size; simp; omega, fun x hx => by
    rcases List.mem_cons.1 hx with rfl | hx
    · exact ⟨h.size, Blk.new _ _⟩
    · exact ⟨(h.own x hx).1, (h.own x hx).2.old _⟩⟩
theorem St.setS {w : World} {s : ByteArray} {b : Bool} {L : List (Nat × Array Value × TypeId)} {W : World} (h : St w s b L W) (s' : ByteArray) : St w s' b L (W.setCell ⟨w.heap.size, 0, none⟩ (.string s')) :=
  ⟨h.str.set, h.bad.setOther _ (by simp), h.low.setCell (Nat.le_refl _) _, by simpa [World.setCell] using h.size, fun x hx => ⟨(h.own x hx).1, (h.own x hx).2.setOther _ (by have := (h.own x hx).1; simp; omega)⟩⟩
theorem St.setB {w : World} {s : ByteArray} {b : Bool} {L : List (Nat × Array Value × TypeId)} {W : World} (h : St w s b L W) (b' : Bool) : St w s b' L (W.setCell ⟨w.heap.size + 1, 0, none⟩ (.bool b')) :=
  ⟨h.str.setOther _ (by simp), h.bad.set, h.low.setCell (by simp) _, by simpa [World.setCell] using h.size, fun x hx => ⟨(h.own x hx).1, (h.own x hx).2.setOther _ (by have := (h.own x hx).1; simp; omega)⟩⟩
theorem St.chg {w : World} {s s' : ByteArray} {b b' : Bool} {L : List (Nat × Array Value × TypeId)} {W W' : World} (h : St w s b L W)
    (o1 : One W' w.heap.size (.string s') 9) (o2 : One W' (w.heap.size + 1) (.bool b') 4) (hc : Chg (fun k => k = w.heap.size ∨ k = w.heap.size + 1) W W') : St w s' b' L W' :=
  ⟨o1, o2, Chg.below h.low hc (fun k q => by omega) (by have := h.size; omega), by have := h.size; have := hc.size; omega,
    fun x hx => ⟨(h.own x hx).1, (h.own x hx).2.chg hc (by have := (h.own x hx).1; omega)⟩⟩
theorem num_st (w : World) (s : ByteArray) (b : Bool) (L : List (Nat × Array Value × TypeId)) (z : Int) (beh : ByteArray) (W : World) (n : Int) (s' : List UInt8) (b' : Bool)
    (hs : St w s b L W) (hn : Hid (DtCal.num s.data.toList b z.toNat beh.data.toList = (n, s', b'))) (hz : 0 ≤ z ∧ z ≤ 4) :
    Calls Tryd.prog 25 #[.int .i64 z, .string beh, .pointer (some ⟨w.heap.size, 0, none⟩), .pointer (some ⟨w.heap.size + 1, 0, none⟩)] W fun e w' =>
      e = .returned (.int .i64 n) ∧ St w ⟨s'.toArray⟩ b' L w' :=
  (num_z w.heap.size (w.heap.size + 1) s b z beh W n s' b' hs.str hs.bad hn hz (by omega)).mono fun _ _ ⟨e, ⟨o1, o2, hc⟩⟩ => ⟨e, hs.chg o1 o2 hc⟩
end Go.Proofs.YtfbpadkjfdedeaaDoor
