/-
  date.Parse, in one.
  Walks of the package param: the closures of ParseMail.
  Walks of the package param: PrintMail, in one.
-/
import Derived.Test.YtllhbcpbihhdnaaGreatDoorQDtParse
import Derived.Test.YtllhbcpbihhdnaaGreatDoorQDtParseP2
import Derived.Test.YtllhbcpbihhdnaaGreatDoorQDtParseM2
import Derived.Test.YtllhbcpbihhdnaaGreatDoorQ1
import Derived.Test.YtllhbcpbihhdnaaGreatDoorQ3
import Derived.Test.YtllhbcpbihhdnaaGreatDoorQPmPrM
import Derived.Lib.ItoaLen
section
set_option linter.unusedVariables false
set_option linter.unusedSimpArgs false
namespace Go.Proofs.YtllhbcpbihhdnaaGreatDoor
open Go.RowKit
set_option maxRecDepth 100000
theorem parse_any (s : ByteArray) (w : World) :
    Calls Tryz.prog 50 #[.string s] w fun e w' => e = .returned (.tuple #[.int .i64 (DtCal.parse s.data.toList).1, .int .i64 (DtCal.parse s.data.toList).2]) ∧ Below w.heap.size w w' := by
  unfold DtCal.parse DtCal.shape
  simp only
  generalize h1 : DtCal.num s.data.toList false 4 [45] = r1
  obtain ⟨y, s1, b1⟩ := r1
  generalize h2 : DtCal.num s1 b1 2 [45] = r2
  obtain ⟨mo, s2, b2⟩ := r2
  generalize h3 : DtCal.num s2 b2 2 [84] = r3
  obtain ⟨d, s3, b3⟩ := r3
  generalize h4 : DtCal.num s3 b3 2 [58] = r4
  obtain ⟨h, s4, b4⟩ := r4
  generalize h5 : DtCal.num s4 b4 2 [58] = r5
  obtain ⟨m, s5, b5⟩ := r5
  generalize h6 : DtCal.num s5 b5 2 [] = r6
  obtain ⟨x, s6, b6⟩ := r6
  simp only
  unfold DtCal.zone
  by_cases hp : [43].isPrefixOf s6 = true
  · rw [if_pos hp]
    simp only [show ¬ ((-1 : Int) = 0) by decide, if_false]
    generalize h7 : DtCal.num (s6.drop 1) b6 2 [58] = r7
    obtain ⟨zh, s7, b7⟩ := r7
    generalize h8 : DtCal.num s7 b7 2 [] = r8
    obtain ⟨zm, s8, b8⟩ := r8
    exact parse_plus s w y mo d h m x s1 s2 s3 s4 s5 s6 b1 b2 b3 b4 b5 b6 h1 h2 h3 h4 h5 h6 hp zh zm s7 s8 b7 b8 h7 h8
  · rw [if_neg hp]
    by_cases hm : [45].isPrefixOf s6 = true
    · rw [if_pos hm]
      simp only [show ¬ ((1 : Int) = 0) by decide, if_false]
      generalize h7 : DtCal.num (s6.drop 1) b6 2 [58] = r7
      obtain ⟨zh, s7, b7⟩ := r7
      generalize h8 : DtCal.num s7 b7 2 [] = r8
      obtain ⟨zm, s8, b8⟩ := r8
      exact parse_minus s w y mo d h m x s1 s2 s3 s4 s5 s6 b1 b2 b3 b4 b5 b6 h1 h2 h3 h4 h5 h6 hm hp zh zm s7 s8 b7 b8 h7 h8
    · rw [if_neg hm, if_pos rfl]
      exact parse_none s w y mo d h m x s1 s2 s3 s4 s5 s6 b1 b2 b3 b4 b5 b6 h1 h2 h3 h4 h5 h6 hp hm
end Go.Proofs.YtllhbcpbihhdnaaGreatDoor
end
section
set_option linter.unusedVariables false
set_option linter.unusedSimpArgs false
namespace Go.Proofs.YtllhbcpbihhdnaaGreatDoor
open Go.RowKit Pm
set_option maxRecDepth 100000
set_option maxHeartbeats 4000000 in
theorem cl_size (v : ByteArray) (mb : Nat) (m : Ml) (W : World) (hm : Blk W mb m.cells 27) (hv : v.size ≤ 100000000) :
    Calls Tryz.prog 43 #[.string v, .pointer (some ⟨mb, 0, none⟩)] W fun e W' => e = .returned (.int .i64 (stSize v m).2) ∧ Blk W' mb (stSize v m).1.cells 27 ∧ Chg (fun k => k = mb) W W' := by
  have z0 := Blk.cell hm 0 _ rfl
  have y0 := Blk.free hm 0
  have B := Aside.mk (Blk.setEq hm 0 (.bool true) (show _ = Ml.cells { m with hS := true } from rfl))
  have T := Aside.mk ((Chg.refl (fun k => k = mb) W).setCell (p := ⟨mb, 0, none⟩) (fun _ => rfl) (.bool true))
  clear hm
  have hn := fun W => number_any v W (by omega)
  unfold stSize
  obtain ⟨n, e, hne⟩ : ∃ n e, Txt.number v.data.toList = (n, e) := ⟨_, _, rfl⟩
  rw [hne] at hn ⊢
  dsimp only at hn ⊢
  clear hne
  go_enter Tryz.func43, Tryz.ntmps43
  go_wp2_with (go_at_call 44; (with_reducible refine (hn _).mono ?_); rintro e w1 ⟨rfl, hb⟩; replace B := Aside.mk (B.out.below hb); replace T := Aside.mk (T.out.trans (Chg.ofBelow hb _) (fun _ _ q => q)); clear hb; clear z0 y0; have z5 := Blk.cell B.out 5 _ rfl; have y5 := Blk.free B.out 5)
  go_ret
  exact ⟨rfl, Blk.setEq B.out 5 _ rfl, T.out.setCell (fun _ => rfl) _⟩
set_option maxHeartbeats 4000000 in
theorem cl_envid (v : ByteArray) (mb : Nat) (m : Ml) (W : World) (hm : Blk W mb m.cells 27) (hv : v.size ≤ 100000000) :
    Calls Tryz.prog 45 #[.string v, .pointer (some ⟨mb, 0, none⟩)] W fun e W' => e = .returned (.int .i64 (stEnvid v m).2) ∧ Blk W' mb (stEnvid v m).1.cells 27 ∧ Chg (fun k => k = mb) W W' := by
  have hn := fun W => decoded_any v 100 W hv
  unfold stEnvid
  obtain ⟨n, e, hne⟩ : ∃ n e, decoded v.data.toList 100 = (n, e) := ⟨_, _, rfl⟩
  rw [hne] at hn ⊢
  dsimp only at hn ⊢
  obtain ⟨nb, hnb⟩ : ∃ nb : ByteArray, (⟨n.toArray⟩ : ByteArray) = nb := ⟨_, rfl⟩
  rw [hnb] at hn ⊢
  clear hne hnb
  have B := Aside.mk hm
  have T := Aside.mk (Chg.refl (fun k => k = mb) W)
  clear hm
  go_enter Tryz.func45, Tryz.ntmps45
  go_wp2_with (go_at_call 46; (with_reducible refine (hn _).mono ?_); rintro e w1 ⟨rfl, hb⟩; replace B := Aside.mk (B.out.below hb); replace T := Aside.mk (T.out.trans (Chg.ofBelow hb _) (fun _ _ q => q)); clear hb; have z12 := Blk.cell B.out 12 _ rfl; have y12 := Blk.free B.out 12)
  go_ret
  exact ⟨rfl, Blk.setEq B.out 12 _ rfl, T.out.setCell (fun _ => rfl) _⟩
set_option maxHeartbeats 4000000 in
theorem cl_for (v : ByteArray) (mb : Nat) (m : Ml) (W : World) (hm : Blk W mb m.cells 27) (hv : v.size ≤ 100000000) :
    Calls Tryz.prog 47 #[.string v, .pointer (some ⟨mb, 0, none⟩)] W fun e W' => e = .returned (.int .i64 (stFor v m).2) ∧ Blk W' mb (stFor v m).1.cells 27 ∧ Chg (fun k => k = mb) W W' := by
  have z1 := Blk.cell hm 1 _ rfl
  have y1 := Blk.free hm 1
  have B := Aside.mk (Blk.setEq hm 1 (.bool true) (show _ = Ml.cells { m with hF := true } from rfl))
  have T := Aside.mk ((Chg.refl (fun k => k = mb) W).setCell (p := ⟨mb, 1, none⟩) (fun _ => rfl) (.bool true))
  clear hm
  have hn := fun W => number_any v W (by omega)
  have hw := fun W => within_any (Txt.number v.data.toList).1 (Txt.number v.data.toList).2 1 1048576 W
  unfold stFor
  change ∀ W, Calls _ _ _ W (fun e w' => e = .returned (.tuple #[.int .i64 (forN v).1, .int .i64 (forN v).2]) ∧ _) at hw
  obtain ⟨r1, r2, hr⟩ : ∃ r1 r2, forN v = (r1, r2) := ⟨_, _, rfl⟩
  rw [hr] at hw ⊢
  obtain ⟨n, e, hne⟩ : ∃ n e, Txt.number v.data.toList = (n, e) := ⟨_, _, rfl⟩
  rw [hne] at hn hw
  dsimp only at hn hw ⊢
  clear hne hr
  go_enter Tryz.func47, Tryz.ntmps47
  go_wp2_with (first | (go_at_call 44; (with_reducible refine (hn _).mono ?_); rintro e w1 ⟨rfl, hb⟩; replace B := Aside.mk (B.out.below hb); replace T := Aside.mk (T.out.trans (Chg.ofBelow hb _) (fun _ _ q => q)); clear hb; clear z1 y1; have z6 := Blk.cell B.out 6 _ rfl; have y6 := Blk.free B.out 6) | (go_at_call 48; (with_reducible refine (hw _).mono ?_); rintro e w' ⟨rfl, hw_⟩; have hw' := hw_.symm; clear hw_; subst hw'))
  go_ret
  exact ⟨rfl, Blk.setEq B.out 6 _ rfl, T.out.setCell (fun _ => rfl) _⟩
set_option maxHeartbeats 4000000 in
theorem cl_until (v : ByteArray) (mb : Nat) (m : Ml) (W : World) (hm : Blk W mb m.cells 27) (hv : v.size ≤ 100000000) :
    Calls Tryz.prog 49 #[.string v, .pointer (some ⟨mb, 0, none⟩)] W fun e W' => e = .returned (.int .i64 (stUntil v m).2) ∧ Blk W' mb (stUntil v m).1.cells 27 ∧ Chg (fun k => k = mb) W W' := by
  have z2 := Blk.cell hm 2 _ rfl
  have y2 := Blk.free hm 2
  have B := Aside.mk (Blk.setEq hm 2 (.bool true) (show _ = Ml.cells { m with hU := true } from rfl))
  have T := Aside.mk ((Chg.refl (fun k => k = mb) W).setCell (p := ⟨mb, 2, none⟩) (fun _ => rfl) (.bool true))
  clear hm
  have hu := fun W => param_upper v W (by omega)
  have hn := fun W => parse_any ⟨(Txt.upper v.data.toList).toArray⟩ W
  unfold stUntil
  rw [show (⟨(Txt.upper v.data.toList).toArray⟩ : ByteArray).data.toList = Txt.upper v.data.toList from rfl] at hn
  obtain ⟨q, hne⟩ : ∃ q, DtCal.parse (Txt.upper v.data.toList) = q := ⟨_, rfl⟩
  rw [hne] at hn ⊢
  obtain ⟨n, e⟩ := q
  dsimp only at hn ⊢
  obtain ⟨nb, hnb⟩ : ∃ nb : ByteArray, (⟨(Txt.upper v.data.toList).toArray⟩ : ByteArray) = nb := ⟨_, rfl⟩
  rw [hnb] at hn hu
  clear hne hnb
  go_enter Tryz.func49, Tryz.ntmps49
  go_wp2_with (first | (go_at_call 51; (with_reducible refine (hu _).mono ?_); rintro e w1 ⟨rfl, hb⟩; replace B := Aside.mk (B.out.below hb); replace T := Aside.mk (T.out.trans (Chg.ofBelow hb _) (fun _ _ q => q)); clear hb; clear z2 y2) | (go_at_call 50; (with_reducible refine (hn _).mono ?_); rintro e w1 ⟨rfl, hb⟩; replace B := Aside.mk (B.out.below hb); replace T := Aside.mk (T.out.trans (Chg.ofBelow hb _) (fun _ _ q => q)); clear hb; have z7 := Blk.cell B.out 7 _ rfl; have y7 := Blk.free B.out 7))
  go_ret
  exact ⟨rfl, Blk.setEq B.out 7 _ rfl, T.out.setCell (fun _ => rfl) _⟩
set_option maxHeartbeats 4000000 in
theorem cl_pri (v : ByteArray) (mb : Nat) (m : Ml) (W : World) (hm : Blk W mb m.cells 27) (hv : v.size ≤ 100000000) :
    Calls Tryz.prog 54 #[.string v, .pointer (some ⟨mb, 0, none⟩)] W fun e W' => e = .returned (.int .i64 (stPri v m).2) ∧ Blk W' mb (stPri v m).1.cells 27 ∧ Chg (fun k => k = mb) W W' := by
  have z4 := Blk.cell hm 4 _ rfl
  have y4 := Blk.free hm 4
  have B := Aside.mk (Blk.setEq hm 4 (.bool true) (show _ = Ml.cells { m with hP := true } from rfl))
  have T := Aside.mk ((Chg.refl (fun k => k = mb) W).setCell (p := ⟨mb, 4, none⟩) (fun _ => rfl) (.bool true))
  clear hm
  have hn := fun W => signed_any v W (by omega)
  have hw := fun W => within_any (signed v.data.toList).1 (signed v.data.toList).2 (-9) 9 W
  unfold stPri
  change ∀ W, Calls _ _ _ W (fun e w' => e = .returned (.tuple #[.int .i64 (priN v).1, .int .i64 (priN v).2]) ∧ _) at hw
  obtain ⟨r1, r2, hr⟩ : ∃ r1 r2, priN v = (r1, r2) := ⟨_, _, rfl⟩
  rw [hr] at hw ⊢
  obtain ⟨n, e, hne⟩ : ∃ n e, signed v.data.toList = (n, e) := ⟨_, _, rfl⟩
  rw [hne] at hn hw
  dsimp only at hn hw ⊢
  clear hne hr
  go_enter Tryz.func54, Tryz.ntmps54
  go_wp2_with (first | (go_at_call 53; (with_reducible refine (hn _).mono ?_); rintro e w1 ⟨rfl, hb⟩; replace B := Aside.mk (B.out.below hb); replace T := Aside.mk (T.out.trans (Chg.ofBelow hb _) (fun _ _ q => q)); clear hb; clear z4 y4; have z9 := Blk.cell B.out 9 _ rfl; have y9 := Blk.free B.out 9) | (go_at_call 48; (with_reducible refine (hw _).mono ?_); rintro e w' ⟨rfl, hw_⟩; have hw' := hw_.symm; clear hw_; subst hw'))
  go_ret
  exact ⟨rfl, Blk.setEq B.out 9 _ rfl, T.out.setCell (fun _ => rfl) _⟩
end Go.Proofs.YtllhbcpbihhdnaaGreatDoor
end
section
set_option linter.unusedVariables false
set_option linter.unusedSimpArgs false
namespace Go.Proofs.YtllhbcpbihhdnaaGreatDoor
open Go.RowKit
set_option maxRecDepth 100000
/-- A number of 64 bits. -/
def I64 (n : Int) : Prop := -9223372036854775808 ≤ n ∧ n ≤ 9223372036854775807
theorem itoaB_any (n : Int) (h : I64 n) (W : World) (ht : Tab W) : Calls Tryz.prog 73 #[.int .i64 n] W fun e w' => e = .returned (.string (Pm.itoaB n)) ∧ Below W.heap.size W w' := itoa_any n W h.1 h.2 ht
theorem itoaB_size (n : Int) (h : I64 n) : (Pm.itoaB n).size ≤ 21 := by have := Lib.itoa_length_le n h.1 h.2; simpa [Pm.itoaB, ByteArray.size] using this
theorem printMail_any (hS hF hU hB hP : Bool) (s f u b p : Int) (body ret envid mode : ByteArray) (w : World) (ht : Tab w) (is : I64 s) (if_ : I64 f) (ib : I64 b) (ip : I64 p) (lb : body.size ≤ 2000) (lr : ret.size ≤ 2000) (lm : mode.size ≤ 2000) :
    Calls Tryz.prog 27 #[.agg #[.bool hS, .bool hF, .bool hU, .bool hB, .bool hP, .int .i64 s, .int .i64 f, .int .i64 u, .int .i64 b, .int .i64 p, .string body, .string ret, .string envid, .string mode]] w fun e w' => e = .returned (.tuple #[.string (if Pm.rightMail hS hF hU hB hP s f u b p body ret envid mode = 0 then Pm.mailText hS hF hU hB hP s f u b p body ret envid mode else ⟨#[]⟩), .int .i64 (Pm.rightMail hS hF hU hB hP s f u b p body ret envid mode)]) ∧ Below w.heap.size w w' := by
  by_cases hr : Pm.rightMail hS hF hU hB hP s f u b p body ret envid mode = 0
  · rw [if_pos hr, hr]
    have hen : envid.size ≤ 100 := by
      unfold Pm.rightMail at hr
      split at hr
      · omega
      · split at hr
        · omega
        · split at hr
          · omega
          · split at hr
            · omega
            · omega
    have hel := Tx.enc_len envid.data.toList
    have hes : envid.data.toList.length ≤ 100 := by simpa using hen
    refine printMail_of hS hF hU hB hP s f u b p body ret envid mode (Pm.itoaB s) (Pm.encB envid) (Pm.itoaB f) (Pm.dateB u) (Pm.itoaB b) (Pm.itoaB p) _ w ht hr (itoaB_any s is) (itoaB_any f if_) (itoaB_any b ib) (itoaB_any p ip) (fun W hW => print_any u W hW) (fun W => encode_any envid W (by omega)) (itoaB_size s is) (itoaB_size f if_) (itoaB_size b ib) (itoaB_size p ip) ?_ ?_ lb lr lm
    · unfold Pm.dateB
      split
      · have : (DtCal.text u).length = 20 := rfl
        simp [ByteArray.size, this]
      · simp [ByteArray.size]
    · show (Tx.enc envid.data.toList).toArray.size ≤ 300
      simp only [List.size_toArray]
      omega
  · rw [if_neg hr]
    exact printMail_bad hS hF hU hB hP s f u b p body ret envid mode w _ rfl hr
end Go.Proofs.YtllhbcpbihhdnaaGreatDoor
end
