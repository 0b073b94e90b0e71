/-
  Walks of the package param: decoded.
  What is said of a message, and of a recipient: plain; the steps of the words.
  Lemmas on the way to the date laws (DtDays): what each function does, walked once, and plain laws of dates.
  Lemmas on the way to the date laws (DtDay2): what each function does, walked once, and plain laws of dates.
  Walks of the package param: the closures of ParseMail: the texts, BY.
  Walks of the package param: notices, notify.
  Walks of the package param: notify.
  Walks of the package param: the closures of ParseRcpt.
  Lemmas on the way to the date laws (DtOf): what each function does, walked once, and plain laws of dates.
  Walks of the package param: RightRcpt, in one.
  Where mail goes: Parse, in one.
-/
import Derived.Test.YtllhbcpbihhdnaaGreatDoorQTxDec2
import Derived.Test.YtllhbcpbihhdnaaGreatDoorQ1
import Derived.Test.YtllhbcpbihhdnaaGreatDoorQPmTy
import Derived.Test.YtllhbcpbihhdnaaGreatDoorQDtLen
import Derived.IntWalk
import Derived.Deep.RegionHeld3
import Derived.Test.YtllhbcpbihhdnaaGreatDoorQPmRcpt
import Derived.Test.YtllhbcpbihhdnaaGreatDoorQPtPb
import Derived.Test.YtllhbcpbihhdnaaGreatDoorQPtPc
section
set_option linter.unusedVariables false
set_option linter.unusedSimpArgs false
namespace Tx
theorem dec_len (l : List UInt8) : ∀ o, dec l = some o → o.length ≤ l.length := by
  induction l using dec.induct with
  | case1 => intro o h; simp [dec] at h; subst h; simp
  | case2 c r hp ih =>
    intro o h
    rw [dec_cons, if_pos hp] at h
    cases hd : dec r with
    | none => rw [hd] at h; simp at h
    | some x => rw [hd] at h; simp at h; subst h; have := ih x hd; simp; omega
  | case3 a b r' hab x1 x2 =>
    intro o h
    rw [dec_cons, if_neg (by decide : ¬ Txt.plain 43 = true), if_pos rfl] at h
    simp only [hab, and_self, if_true] at h
    cases hd : dec r' with
    | none => rw [hd] at h; simp at h
    | some x => rw [hd] at h; simp at h; subst h; have := x2 x hd; simp; omega
  | case4 a b r' hab x1 =>
    intro o h
    rw [dec_cons, if_neg (by decide : ¬ Txt.plain 43 = true), if_pos rfl] at h
    simp only [hab, if_false] at h
    simp at h
  | case5 r hr x1 =>
    intro o h
    rw [dec_cons, if_neg (by decide : ¬ Txt.plain 43 = true), if_pos rfl] at h
    split at h
    · exact absurd rfl (hr _ _ _)
    · simp at h
  | case6 c r hp hc =>
    intro o h
    rw [dec_cons, if_neg hp, if_neg hc] at h
    simp at h
end Tx
namespace Go.Proofs.YtllhbcpbihhdnaaGreatDoor
open Go.RowKit
set_option maxRecDepth 100000
namespace Pm
/-- What an xtext tells, so many bytes at most. -/
def decoded (l : List UInt8) (n : Int) : List UInt8 × Int := match Tx.dec l with
  | none => ([], 2)
  | some [] => ([], 2)
  | some (c :: r) => if n < ((c :: r).length : Int) then ([], 3) else (c :: r, 0)
end Pm
theorem decoded_any (s : ByteArray) (n : Int) (w : World) (hs : s.size ≤ 100000000) :
    Calls Tryz.prog 46 #[.string s, .int .i64 n] w fun e w' => e = .returned (.tuple #[.string ⟨(Pm.decoded s.data.toList n).1.toArray⟩, .int .i64 (Pm.decoded s.data.toList n).2]) ∧ Below w.heap.size w w' := by
  have hd := fun W => decode_any s W hs
  have hln := Tx.dec_len s.data.toList
  have hsz : s.data.toList.length = s.size := by simp
  obtain ⟨r, hr⟩ : ∃ r, Pm.decoded s.data.toList n = r := ⟨_, rfl⟩
  rw [hr]
  unfold Pm.decoded at hr
  cases hx : Tx.dec s.data.toList with
  | none =>
    rw [hx] at hd hr
    have HR := Lib.hid hr
    clear hr hln hx
    simp only [Option.getD_none, Option.isSome_none, Bool.false_eq_true, if_false] at hd
    go_enter Tryz.func46, Tryz.ntmps46
    go_wp2_with ((go_at_call 91; (with_reducible refine (hd _).mono ?_); rintro e w1 ⟨rfl, hb⟩))
    go_ret2
    exact ⟨by rw [← HR.out]; rfl, hb⟩
  | some t =>
    have hl := hln t hx
    rw [hx] at hd hr
    simp only [Option.getD_some, Option.isSome_some, if_true] at hd
    clear hln hx
    cases t with
    | nil =>
      have HR := Lib.hid hr
      clear hr
      go_enter Tryz.func46, Tryz.ntmps46
      go_wp2_with ((go_at_call 91; (with_reducible refine (hd _).mono ?_); rintro e w1 ⟨rfl, hb⟩))
      go_ret2
      exact ⟨by rw [← HR.out]; rfl, hb⟩
    | cons c t =>
      obtain ⟨T, hT⟩ : ∃ T : ByteArray, (⟨(c :: t).toArray⟩ : ByteArray) = T := ⟨_, rfl⟩
      have hTs : T.size = (c :: t).length := by rw [← hT]; rfl
      have hTe : (T.toList == []) = false := by rw [Lib.toList_data, ← hT]; rfl
      have hTm : T.size ≤ 100000000 := by omega
      rw [hT] at hd
      simp only at hr
      rw [← hTs] at hr
      have HT := Lib.hid hT
      clear hT hTs hl
      by_cases h3 : n < (T.size : Int)
      · rw [if_pos h3] at hr
        have HR := Lib.hid hr
        clear hr
        go_enter Tryz.func46, Tryz.ntmps46
        go_wp2_with ((go_at_call 91; (with_reducible refine (hd _).mono ?_); rintro e w1 ⟨rfl, hb⟩))
        go_ret2
        exact ⟨by rw [← HR.out]; rfl, hb⟩
      · rw [if_neg h3] at hr
        have HR := Lib.hid hr
        clear hr
        go_enter Tryz.func46, Tryz.ntmps46
        go_wp2_with ((go_at_call 91; (with_reducible refine (hd _).mono ?_); rintro e w1 ⟨rfl, hb⟩))
        go_ret2
        exact ⟨by rw [← HR.out, HT.out]; rfl, hb⟩
end Go.Proofs.YtllhbcpbihhdnaaGreatDoor
end
section
set_option linter.unusedVariables false
set_option linter.unusedSimpArgs false
namespace Go.Proofs.YtllhbcpbihhdnaaGreatDoor
open Go.RowKit
namespace Pm
structure Ml where
  hS : Bool
  hF : Bool
  hU : Bool
  hB : Bool
  hP : Bool
  s : Int
  f : Int
  u : Int
  b : Int
  p : Int
  body : ByteArray
  ret : ByteArray
  envid : ByteArray
  mode : ByteArray
def Ml.cells (m : Ml) : Array Value := #[.bool m.hS, .bool m.hF, .bool m.hU, .bool m.hB, .bool m.hP, .int .i64 m.s, .int .i64 m.f, .int .i64 m.u, .int .i64 m.b, .int .i64 m.p, .string m.body, .string m.ret, .string m.envid, .string m.mode]
def Ml.zero : Ml := ⟨false, false, false, false, false, 0, 0, 0, 0, 0, ⟨#[]⟩, ⟨#[]⟩, ⟨#[]⟩, ⟨#[]⟩⟩
structure Rc where
  nt : ByteArray
  kd : ByteArray
  oc : ByteArray
def Rc.cells (r : Rc) : Array Value := #[.string r.nt, .string r.kd, .string r.oc]
def Rc.zero : Rc := ⟨⟨#[]⟩, ⟨#[]⟩, ⟨#[]⟩⟩
def n7 : ByteArray := ⟨#[55, 66, 73, 84]⟩
def n8 : ByteArray := ⟨#[56, 66, 73, 84, 77, 73, 77, 69]⟩
def nFull : ByteArray := ⟨#[70, 85, 76, 76]⟩
def nHdrs : ByteArray := ⟨#[72, 68, 82, 83]⟩
def stSize (v : ByteArray) (m : Ml) : Ml × Int := ({ m with hS := true, s := (Txt.number v.data.toList).1 }, (Txt.number v.data.toList).2)
def stBody (v : ByteArray) (m : Ml) : Ml × Int := ({ m with body := (name v [n7, n8]).1 }, (name v [n7, n8]).2)
def stRet (v : ByteArray) (m : Ml) : Ml × Int := ({ m with ret := (name v [nFull, nHdrs]).1 }, (name v [nFull, nHdrs]).2)
def stEnvid (v : ByteArray) (m : Ml) : Ml × Int := ({ m with envid := ⟨(decoded v.data.toList 100).1.toArray⟩ }, (decoded v.data.toList 100).2)
def forN (v : ByteArray) : Int × Int := within (Txt.number v.data.toList).1 (Txt.number v.data.toList).2 1 1048576
def stFor (v : ByteArray) (m : Ml) : Ml × Int := ({ m with hF := true, f := (forN v).1 }, (forN v).2)
def stUntil (v : ByteArray) (m : Ml) : Ml × Int := ({ m with hU := true, u := (DtCal.parse (Txt.upper v.data.toList)).1 }, (DtCal.parse (Txt.upper v.data.toList)).2)
def modes : List ByteArray := [⟨#[82]⟩, ⟨#[78]⟩, ⟨#[82, 84]⟩, ⟨#[78, 84]⟩]
def byMode (v : ByteArray) : ByteArray × Int := name ⟨(Lib.cut v.data.toList [59]).2.1.toArray⟩ modes
def byLeast (mode : ByteArray) : Int := if Lib.hasPrefix mode.data.toList [82] = true then 1 else -999999999
def byN (v : ByteArray) : Int × Int := within (signed (Lib.cut v.data.toList [59]).1).1 (signed (Lib.cut v.data.toList [59]).1).2 (byLeast (byMode v).1) 999999999
def stBy (v : ByteArray) (m : Ml) : Ml × Int := if (byMode v).2 ≠ 0 then ({ m with hB := true }, (byMode v).2) else ({ m with hB := true, mode := (byMode v).1, b := (byN v).1 }, (byN v).2)
def priN (v : ByteArray) : Int × Int := within (signed v.data.toList).1 (signed v.data.toList).2 (-9) 9
def stPri (v : ByteArray) (m : Ml) : Ml × Int := ({ m with hP := true, p := (priN v).1 }, (priN v).2)
end Pm
theorem Blk.setEq {w : World} {b : Nat} {cs cs' : Array Value} {t : TypeId} (h : Blk w b cs t) (i : Nat) (v : Value) (e : cs.setIfInBounds i v = cs') : Blk (w.setCell ⟨b, i, none⟩ v) b cs' t := e ▸ h.set i v
end Go.Proofs.YtllhbcpbihhdnaaGreatDoor
end
section
set_option linter.unusedVariables false
set_option linter.unusedSimpArgs false
namespace Go.Proofs.YtllhbcpbihhdnaaGreatDoor
open Go.RowKit
set_option maxRecDepth 100000
set_option maxHeartbeats 2000000 in
theorem right_yes (y m d : Int) (w : World) (h1 : 1970 ≤ y) (h2 : y ≤ 9999) (h3 : 1 ≤ m) (h4 : 1 ≤ d) :
    Calls Tryz.prog 121 #[.agg #[.int .i64 y, .int .i64 m, .int .i64 d]] w fun e w' => e = .returned (.bool (DtCal.right y m d)) ∧ Below w.heap.size w w' := by
  have HR : Hid (DtCal.right y m d = decide (d ≤ DtCal.len y m)) := by
    unfold Hid DtCal.right; rw [Bool.eq_iff_iff]; simp; omega
  go_enter Tryz.func121, Tryz.ntmps121
  go_wp2
  go_region_held3 (fun w' => w'.cell? ⟨w.heap.size, 0, none⟩ = some (.int .i64 y) ∧ w'.cell? ⟨w.heap.size, 1, none⟩ = some (.int .i64 m) ∧ w'.cell? ⟨w.heap.size, 2, none⟩ = some (.int .i64 d) ∧ Below w.heap.size w w') (((try dsimp only); refine ⟨?_, ?_, ?_, ?_⟩ <;> (first | go_keep | exact ((Below.refl _ _).alloc (Nat.le_refl _) _).drew | exact Below.next (‹_ ∧ _ ∧ _ ∧ Below _ _ _›).2.2.2 hb (Nat.le_refl _) | exact cell_next hb (‹_ ∧ _ ∧ _ ∧ Below _ _ _›).1 | exact cell_next hb (‹_ ∧ _ ∧ _ ∧ Below _ _ _›).2.1 | exact cell_next hb (‹_ ∧ _ ∧ _ ∧ Below _ _ _›).2.2.1)))
    (first | (go_at_call 123; refine (len_any _ _ _).mono ?_; rintro e w' ⟨rfl, hb⟩))
  all_goals
    go_wp2
    go_ret
    exact ⟨ret_bool (by rw [HR.out]), by first | assumption | exact (‹_ ∧ _ ∧ _ ∧ Below _ _ _›).2.2.2⟩
theorem right_any (y m d : Int) (w : World) :
    Calls Tryz.prog 121 #[.agg #[.int .i64 y, .int .i64 m, .int .i64 d]] w fun e w' => e = .returned (.bool (DtCal.right y m d)) ∧ Below w.heap.size w w' := by
  by_cases h1 : 1970 ≤ y
  · by_cases h2 : y ≤ 9999
    · by_cases h3 : 1 ≤ m
      · by_cases h4 : 1 ≤ d
        · exact right_yes y m d w h1 h2 h3 h4
        · have hd : decide (1 ≤ d) = false := by simpa using h4
          go_enter Tryz.func121, Tryz.ntmps121
          go_wp2
          go_quiet (fail)
          go_wp2
          go_ret
          exact ⟨ret_bool (by unfold DtCal.right; simp; omega), pw_below_drewN ((Below.refl _ _).alloc (Nat.le_refl _) _) _⟩
      · have hd : decide (1 ≤ m) = false := by simpa using h3
        go_enter Tryz.func121, Tryz.ntmps121
        go_wp2
        go_quiet (fail)
        go_wp2
        go_ret
        exact ⟨ret_bool (by unfold DtCal.right; simp; omega), pw_below_drewN ((Below.refl _ _).alloc (Nat.le_refl _) _) _⟩
    · have hd : decide (y ≤ 9999) = false := by simpa using h2
      go_enter Tryz.func121, Tryz.ntmps121
      go_wp2
      go_quiet (fail)
      go_wp2
      go_ret
      exact ⟨ret_bool (by unfold DtCal.right; simp; omega), pw_below_drewN ((Below.refl _ _).alloc (Nat.le_refl _) _) _⟩
  · have hd : decide (1970 ≤ y) = false := by simpa using h1
    go_enter Tryz.func121, Tryz.ntmps121
    go_wp2
    go_quiet (fail)
    go_wp2
    go_ret
    exact ⟨ret_bool (by unfold DtCal.right; simp; omega), pw_below_drewN ((Below.refl _ _).alloc (Nat.le_refl _) _) _⟩
end Go.Proofs.YtllhbcpbihhdnaaGreatDoor
end
section
set_option linter.unusedVariables false
set_option linter.unusedSimpArgs false
namespace Go.Proofs.YtllhbcpbihhdnaaGreatDoor
open Go.RowKit
set_option maxRecDepth 100000
set_option maxHeartbeats 2000000 in
theorem days_no (y m d : Int) (w : World) (h : DtCal.right y m d = false) :
    Calls Tryz.prog 93 #[.agg #[.int .i64 y, .int .i64 m, .int .i64 d]] w fun e w' => e = .returned (.tuple #[.int .i64 0, .int .i64 1]) ∧ Below w.heap.size w w' := by
  go_enter Tryz.func93, Tryz.ntmps93
  go_wp2_with (go_at_call 121; refine (right_any _ _ _ _).mono ?_; rintro e w' ⟨rfl, hb⟩)
  go_ret2
  exact ⟨rfl, Below.next ((Below.refl _ _).alloc (Nat.le_refl _) _) (by assumption) (Nat.le_refl _)⟩
set_option maxHeartbeats 2000000 in
theorem days_yes (y : Int) (M : Nat) (d : Int) (w : World) (h : DtCal.right y M d = true) :
    Calls Tryz.prog 93 #[.agg #[.int .i64 y, .int .i64 M, .int .i64 d]] w fun e w' => e = .returned (.tuple #[.int .i64 (DtCal.dby y - 719162 + DtCal.cum y (M - 1) + d - 1), .int .i64 0]) ∧ Below w.heap.size w w' := by
  have hm := DtCal.right_month h
  obtain ⟨h1, h2, h3, h4, h5⟩ := DtCal.right_iff.1 h
  have hl := DtCal.len_bd y M
  have hb := DtCal.dby_bd y (by omega) (by omega)
  have hmo := DtCal.dby_mono 1970 y (by omega) (by omega)
  have h1970 : DtCal.dby 1970 = 719162 := by decide
  have i1 : IntKind.i64.wrap (DtCal.dby y - DtCal.dby 1970) = DtCal.dby y - DtCal.dby 1970 := IntWalk.i64_in _ (by omega)
  have i2 : IntKind.i64.wrap (DtCal.dby y - DtCal.dby 1970 + d) = DtCal.dby y - DtCal.dby 1970 + d := IntWalk.i64_in _ (by omega)
  have i3 : IntKind.i64.wrap (DtCal.dby y - DtCal.dby 1970 + d - 1) = DtCal.dby y - DtCal.dby 1970 + d - 1 := IntWalk.i64_in _ (by omega)
  rw [h1970] at hmo
  have l70 : DtCal.dby 1970 ≤ 719162 := by omega
  have g70 : 719162 ≤ DtCal.dby 1970 := by omega
  have H70 := Lib.hid h1970
  clear h1970
  go_enter Tryz.func93, Tryz.ntmps93
  go_wp2_with (go_at_call 121; refine (right_any _ _ _ _).mono ?_; rintro e w1 ⟨rfl, hb1⟩; have c0 := cell_next hb1 (a := ⟨w.heap.size, 0, none⟩) (v := .int .i64 y) (by go_simp); have c1 := cell_next hb1 (a := ⟨w.heap.size, 1, none⟩) (v := .int .i64 M) (by go_simp); have c2 := cell_next hb1 (a := ⟨w.heap.size, 2, none⟩) (v := .int .i64 d) (by go_simp))
  go_quiet ((go_at_call 122; exact Calls.quiet_of_same (before_any _ _ (by omega) (by omega))))
  clear i1 i2 i3
  go_wp2
  have hM : 1 ≤ M := by omega
  have HB0 : Below w.heap.size w (w1.drewN nq) := pw_below_drewN (Below.next ((Below.refl _ _).alloc (Nat.le_refl _) _) (by assumption) (Nat.le_refl _)) _
  go_loopw [4, 5] (fun n i wr => ∃ k : Nat, 1 ≤ k ∧ k ≤ M ∧ i = .int .i64 k ∧ n = .int .i64 (DtCal.dby y - DtCal.dby 1970 + d - 1 + DtCal.cum y (k - 1)) ∧
      Aside (wr.cell? ⟨w.heap.size, 0, none⟩ = some (.int .i64 y)) ∧ Aside (wr.cell? ⟨w.heap.size, 1, none⟩ = some (.int .i64 M)) ∧ Below w.heap.size w wr)
    (fun _ i _ => M - (intOf i).toNat)
  case atStart => exact ⟨1, by omega, hM, rfl, by simp [DtCal.cum], ⟨by simpa using c0⟩, ⟨by simpa using c1⟩, HB0⟩
  case round =>
    obtain ⟨k, hk1, hkM, rfl, rfl, ⟨d0⟩, ⟨d1⟩, hbw⟩ := hrel
    have hc := DtCal.cum_bd y (k - 1)
    have hlk := DtCal.len_bd y k
    by_cases hlt : k < M
    · have HC : Hid (DtCal.cum y (k + 1 - 1) = DtCal.cum y (k - 1) + DtCal.len y k) := by
        obtain ⟨j, rfl⟩ : ∃ j, k = j + 1 := ⟨k - 1, by omega⟩
        simp [Hid, DtCal.cum]
      go_wp2_with (go_at_call 123; refine (len_any _ _ _).mono ?_; rintro e w2 ⟨rfl, hb2⟩)
      go_roundw
      case rel => exact ⟨k + 1, by omega, by omega, by simp, by rw [HC.out]; congr 1; omega, ⟨cell_next (by assumption) d0⟩, ⟨cell_next (by assumption) d1⟩, Below.next hbw (by assumption) (Nat.le_refl _)⟩
      case measure => simp [intOf]; omega
    · have hkM' : k = M := by omega
      subst hkM'
      go_wp2
      go_ret2
      exact ⟨by rw [show DtCal.dby y - DtCal.dby 1970 + d - 1 + DtCal.cum y (k - 1) = DtCal.dby y - 719162 + DtCal.cum y (k - 1) + d - 1 by omega]; rfl, hbw⟩
theorem days_any (y m d : Int) (w : World) :
    Calls Tryz.prog 93 #[.agg #[.int .i64 y, .int .i64 m, .int .i64 d]] w fun e w' => e = .returned (.tuple #[.int .i64 (DtCal.days y m d).1, .int .i64 (DtCal.days y m d).2]) ∧ Below w.heap.size w w' := by
  unfold DtCal.days
  by_cases h : DtCal.right y m d = true
  · rw [if_pos h]
    obtain ⟨M, rfl⟩ : ∃ M : Nat, m = M := ⟨m.toNat, by have := (DtCal.right_iff.1 h).2.2.1; omega⟩
    exact days_yes y M d w h
  · rw [if_neg h]
    exact days_no y m d w (by simpa using h)
end Go.Proofs.YtllhbcpbihhdnaaGreatDoor
end
section
set_option linter.unusedVariables false
set_option linter.unusedSimpArgs false
namespace Go.Proofs.YtllhbcpbihhdnaaGreatDoor
open Go.RowKit Pm
set_option maxRecDepth 100000
theorem name_fresh (s : ByteArray) (zs : List ByteArray) (cs : Array Value) (hcs : cs = (zs.map Value.string).toArray) (n : Nat) (hz : zs.length = n) (hn : n ≤ 1000) (hs : s.size ≤ 1000000000) (W : World) (bb : Nat) (hb : W.heap.size = bb) (r : ByteArray × Int) (hr : Pm.name s zs = r) :
    Calls Tryz.prog 41 #[.string s, .slice (some ⟨bb, 0, none⟩) n n] (W.alloc (.cells cs 9)) fun e w' => e = .returned (.tuple #[.string r.1, .int .i64 r.2]) ∧ Below W.heap.size W w' := by
  subst hcs hb hz hr
  have h0 : (W.alloc (.cells (zs.map Value.string).toArray 9)).heap[W.heap.size]? = some (.cells (zs.map Value.string).toArray 9 (0, 0)) := heap_alloc_new W _
  refine (name_any s W.heap.size zs.length zs rfl hn hs _ fun j hj => ?_).mono fun _ _ ⟨h1, h2⟩ => ⟨h1, Below.next ((Below.refl _ _).alloc (Nat.le_refl _) _) h2 (Nat.le_refl _)⟩
  unfold World.cell?
  simp only [h0]
  simp [hj, List.getD_eq_getElem?_getD]
/-- What a closure for a text finds: where it is to be stored; the texts that may be. -/
structure TxS (lb ab sb mb i n : Nat) (zs : List ByteArray) (cs : Array Value) (W : World) : Prop where
  la : Blk W lb #[.slice (some ⟨sb, 0, none⟩) n n] 50
  aa : Blk W ab #[.pointer (some ⟨mb, i, none⟩)] 72
  sl : Blk W sb (zs.map Value.string).toArray 9
  bx : Blk W mb cs 27
theorem TxS.next {lb ab sb mb i n : Nat} {zs : List ByteArray} {cs : Array Value} {W W' : World} (h : TxS lb ab sb mb i n zs cs W) (k : Below W.heap.size W W') : TxS lb ab sb mb i n zs cs W' := ⟨h.la.below k, h.aa.below k, h.sl.below k, h.bx.below k⟩
theorem TxS.drew {lb ab sb mb i n : Nat} {zs : List ByteArray} {cs : Array Value} {W : World} (h : TxS lb ab sb mb i n zs cs W) : TxS lb ab sb mb i n zs cs W.drew := h.next (pw_below_drewN (Below.refl _ _) 1)
theorem TxS.set {lb ab sb mb i n : Nat} {zs : List ByteArray} {cs : Array Value} {W : World} (h : TxS lb ab sb mb i n zs cs W) (h1 : lb ≠ mb) (h2 : ab ≠ mb) (h3 : sb ≠ mb) (v : Value) : TxS lb ab sb mb i n zs (cs.setIfInBounds i v) (W.setCell ⟨mb, i, none⟩ v) := ⟨h.la.setOther _ h1, h.aa.setOther _ h2, h.sl.setOther _ h3, h.bx.set i v⟩
theorem TxS.cells {lb ab sb mb i n : Nat} {zs : List ByteArray} {cs : Array Value} {W : World} (h : TxS lb ab sb mb i n zs cs W) : W.cell? ⟨ab, 0, none⟩ = some (.pointer (some ⟨mb, i, none⟩)) ∧ W.cell? ⟨lb, 0, none⟩ = some (.slice (some ⟨sb, 0, none⟩) n n) := ⟨h.aa.cell 0 _ rfl, h.la.cell 0 _ rfl⟩
theorem TxS.strs {lb ab sb mb i n : Nat} {zs : List ByteArray} {cs : Array Value} {W : World} (h : TxS lb ab sb mb i n zs cs W) (hz : zs.length = n) : ∀ j, j < n → W.cell? ⟨sb, j, none⟩ = some (.string (zs.getD j ByteArray.empty)) := fun j hj => h.sl.cell j _ (by simp [List.getD_eq_getElem?_getD, hz, hj])
theorem TxS.cellAt {lb ab sb mb i n : Nat} {zs : List ByteArray} {cs : Array Value} {W : World} (h : TxS lb ab sb mb i n zs cs W) (hi : i < cs.size) : W.cell? ⟨mb, i, none⟩ = some cs[i] := h.bx.cell i _ (by simp [hi])
set_option maxHeartbeats 8000000 in
theorem cl_text (v : ByteArray) (lb ab sb mb i n : Nat) (zs : List ByteArray) (cs : Array Value) (hz : zs.length = n) (hn : n ≤ 1000) (hi : i < cs.size) (h1 : lb ≠ mb) (h2 : ab ≠ mb) (h3 : sb ≠ mb) (hv : v.size ≤ 100000000) (W : World) (hX : TxS lb ab sb mb i n zs cs W) :
    Calls Tryz.prog 40 #[.string v, .pointer (some ⟨lb, 0, none⟩), .pointer (some ⟨ab, 0, none⟩)] W fun e W' => e = .returned (.int .i64 (Pm.name v zs).2) ∧ TxS lb ab sb mb i n zs (cs.setIfInBounds i (.string (Pm.name v zs).1)) W' ∧ Chg (fun k => k = mb) W W' := by
  have hnm := fun W (hX : TxS lb ab sb mb i n zs cs W) => name_any v sb n zs hz hn (by omega) W (hX.strs hz)
  obtain ⟨r1, r2, hr⟩ : ∃ r1 r2, Pm.name v zs = (r1, r2) := ⟨_, _, rfl⟩
  rw [hr] at hnm ⊢
  dsimp only at hnm ⊢
  clear hr
  have X := Aside.mk hX
  have T := Aside.mk (Chg.refl (fun k => k = mb) W)
  have z0 := hX.aa.cell 0 _ rfl
  have z1 := hX.la.cell 0 _ rfl
  have HS := Aside.mk (And.intro hi (And.intro h1 (And.intro h2 h3)))
  clear hX hi h1 h2 h3
  go_enter Tryz.func40, Tryz.ntmps40
  go_wp2
  clear z0 z1
  replace X := Aside.mk (X.out.drew)
  replace T := Aside.mk (T.out.drew)
  go_region_held3 (fun w' => w'.cell? ⟨ab, 0, none⟩ = some (.pointer (some ⟨mb, i, none⟩)) ∧ w'.cell? ⟨lb, 0, none⟩ = some (.slice (some ⟨sb, 0, none⟩) n n)) (first | exact X.out.cells | exact (X.out.set HS.out.2.1 HS.out.2.2.1 HS.out.2.2.2 _).cells) ((go_at_call 41; (with_reducible refine (hnm _ X.out).mono ?_); rintro e w1 ⟨rfl, hb⟩; replace X := Aside.mk (X.out.next hb); replace T := Aside.mk (T.out.trans (Chg.ofBelow hb _) (fun _ _ q => q)); clear hb; have zc := X.out.cellAt HS.out.1; have yc := X.out.bx.free i))
  all_goals
    go_wp2
    go_ret
    exact ⟨rfl, X.out.set HS.out.2.1 HS.out.2.2.1 HS.out.2.2.2 _, T.out.setCell (fun _ => rfl) _⟩
set_option maxHeartbeats 4000000 in
theorem cl_by (v : ByteArray) (mb : Nat) (m : Ml) (W : World) (hm : Blk W mb m.cells 27) (hv : v.size ≤ 100000000) (hlv : ∀ W', Chg (fun k => k = mb) W W' → Lv W') :
    Calls Tryz.prog 52 #[.string v, .pointer (some ⟨mb, 0, none⟩)] W fun e W' => e = .returned (.int .i64 (stBy v m).2) ∧ Blk W' mb (stBy v m).1.cells 27 ∧ Chg (fun k => k = mb) W W' := by
  have z3 := Blk.cell hm 3 _ rfl
  have y3 := Blk.free hm 3
  have B := Aside.mk (Blk.setEq hm 3 (.bool true) (show _ = Ml.cells { m with hB := true } from rfl))
  have T := Aside.mk ((Chg.refl (fun k => k = mb) W).setCell (p := ⟨mb, 3, none⟩) (fun _ => rfl) (.bool true))
  clear hm
  have HL := Aside.mk hlv
  clear hlv
  have hcut := fun W (hW : Lv W) => cut_any v ⟨#[59]⟩ W hW (by omega)
  have hcs : (Lib.cut v.data.toList [59]).1.length ≤ v.size ∧ (Lib.cut v.data.toList [59]).2.1.length ≤ v.size := by
    have h1 : v.data.toList.length = v.size := by simp
    rw [← h1]
    unfold Lib.cut
    split
    · simp; omega
    · simp
  have hsg := fun W => signed_any ⟨(Lib.cut v.data.toList [59]).1.toArray⟩ W (by show (Lib.cut v.data.toList [59]).1.toArray.size ≤ _; simp; omega)
  have HC : Hid ((#[.string ⟨#[82]⟩, .string ⟨#[78]⟩, .string ⟨#[82, 84]⟩, .string ⟨#[78, 84]⟩] : Array Value) = (modes.map Value.string).toArray) := Lib.hid rfl
  have hnm := fun (W : World) (bb : Nat) (hb : W.heap.size = bb) => name_fresh ⟨(Lib.cut v.data.toList [59]).2.1.toArray⟩ modes _ HC.out 4 rfl (by decide) (by show (Lib.cut v.data.toList [59]).2.1.toArray.size ≤ _; simp; omega) W bb hb _ rfl
  have hpf := fun W => Tryz.strings_HasPrefix (byMode v).1 ⟨#[82]⟩ W
  have hw := fun W => within_any (signed (Lib.cut v.data.toList [59]).1).1 (signed (Lib.cut v.data.toList [59]).1).2 (byLeast (byMode v).1) 999999999 W
  change ∀ W, Calls _ _ _ W (fun e w' => e = .returned (.tuple #[.int .i64 (byN v).1, .int .i64 (byN v).2]) ∧ _) at hw
  change ∀ (W : World) (bb : Nat) (hb : W.heap.size = bb), Calls _ _ _ (W.alloc _) (fun e w' => e = .returned (.tuple #[.string (byMode v).1, .int .i64 (byMode v).2]) ∧ _) at hnm
  rw [show (⟨(Lib.cut v.data.toList [59]).1.toArray⟩ : ByteArray).data.toList = (Lib.cut v.data.toList [59]).1 from rfl] at hsg
  rw [show (⟨#[59]⟩ : ByteArray).data.toList = [59] from rfl] at hcut
  rw [show (⟨#[82]⟩ : ByteArray).data.toList = [82] from rfl] at hpf
  obtain ⟨q, hq⟩ : ∃ q, stBy v m = q := ⟨_, rfl⟩
  rw [hq]
  unfold stBy at hq
  clear hcs
  obtain ⟨r1, r2, hr⟩ : ∃ r1 r2, byN v = (r1, r2) := ⟨_, _, rfl⟩
  rw [hr] at hw hq
  obtain ⟨md, f, hmd⟩ : ∃ md f, byMode v = (md, f) := ⟨_, _, rfl⟩
  rw [hmd] at hnm hpf hw hq
  obtain ⟨n, e, hne⟩ : ∃ n e, signed (Lib.cut v.data.toList [59]).1 = (n, e) := ⟨_, _, rfl⟩
  rw [hne] at hsg hw
  obtain ⟨c1, c2, c3, hcc⟩ : ∃ c1 c2 c3, Lib.cut v.data.toList [59] = (c1, c2, c3) := ⟨_, _, _, rfl⟩
  rw [hcc] at hcut hsg hnm
  obtain ⟨t1, ht1⟩ : ∃ t1 : ByteArray, (⟨c1.toArray⟩ : ByteArray) = t1 := ⟨_, rfl⟩
  obtain ⟨t2, ht2⟩ : ∃ t2 : ByteArray, (⟨c2.toArray⟩ : ByteArray) = t2 := ⟨_, rfl⟩
  dsimp only at hcut hsg hnm hpf hw hq
  rw [ht1] at hcut hsg
  rw [ht2] at hcut hnm
  clear hr hmd hne hcc ht1 ht2
  unfold byLeast at hw
  have HP : ∃ lo, (if Lib.hasPrefix md.data.toList [82] = true then (1 : Int) else -999999999) = lo := ⟨_, rfl⟩
  cases hp : Lib.hasPrefix md.data.toList [82] with
  | true =>
    rw [hp] at hpf hw
    rw [if_pos rfl] at hw
    clear hp
    by_cases hf : f = 0
    · rw [if_neg (by simpa using hf)] at hq
      have f1 : (f == 0) = true := by simpa using hf
      have f2 : (f != 0) = false := by simpa using hf
      have HQ := Lib.hid hq
      clear hf hq HP
      go_enter Tryz.func52, Tryz.ntmps52
      go_wp2_with (first | (go_at_call 24; (with_reducible refine (hcut _ (HL.out _ T.out)).mono ?_); rintro e w1 ⟨rfl, hb⟩; replace B := Aside.mk (B.out.below hb); replace T := Aside.mk (T.out.trans (Chg.ofBelow hb _) (fun _ _ q => q)); clear hb; clear z3 y3) | (go_at_call 53; (with_reducible refine (hsg _).mono ?_); rintro e w1 ⟨rfl, hb⟩; replace B := Aside.mk (B.out.below hb); replace T := Aside.mk (T.out.trans (Chg.ofBelow hb _) (fun _ _ q => q)); clear hb) | (go_at_call 41; (with_reducible refine (hnm _ _ rfl).mono ?_); rintro e w1 ⟨rfl, hb⟩; replace B := Aside.mk (B.out.below hb); replace T := Aside.mk (T.out.trans (Chg.ofBelow hb _) (fun _ _ q => q)); clear hb; have z8 := Blk.cell B.out 8 _ rfl; have y8 := Blk.free B.out 8; have z13 := Blk.cell B.out 13 _ rfl; have y13 := Blk.free B.out 13) | (go_at_call 32; (with_reducible refine (hpf _).mono ?_); rintro e w' ⟨rfl, hw_⟩; have hw' := hw_.symm; clear hw_; subst hw') | (go_at_call 48; (with_reducible refine (hw _).mono ?_); rintro e w' ⟨rfl, hw_⟩; have hw' := hw_.symm; clear hw_; subst hw'))
      go_ret
      rw [← HQ.out]
      exact ⟨rfl, Blk.setEq (Blk.setEq B.out 13 _ (show _ = Ml.cells { { m with hB := true } with mode := md } from rfl)) 8 _ (show _ = Ml.cells { m with hB := true, mode := md, b := r1 } from rfl), (T.out.setCell (fun _ => rfl) _).setCell (fun _ => rfl) _⟩
    · rw [if_pos (by simpa using hf)] at hq
      have f1 : (f == 0) = false := by simpa using hf
      have f2 : (f != 0) = true := by simpa using hf
      have HQ := Lib.hid hq
      clear hf hq HP
      go_enter Tryz.func52, Tryz.ntmps52
      go_wp2_with (first | (go_at_call 24; (with_reducible refine (hcut _ (HL.out _ T.out)).mono ?_); rintro e w1 ⟨rfl, hb⟩; replace B := Aside.mk (B.out.below hb); replace T := Aside.mk (T.out.trans (Chg.ofBelow hb _) (fun _ _ q => q)); clear hb; clear z3 y3) | (go_at_call 53; (with_reducible refine (hsg _).mono ?_); rintro e w1 ⟨rfl, hb⟩; replace B := Aside.mk (B.out.below hb); replace T := Aside.mk (T.out.trans (Chg.ofBelow hb _) (fun _ _ q => q)); clear hb) | (go_at_call 41; (with_reducible refine (hnm _ _ rfl).mono ?_); rintro e w1 ⟨rfl, hb⟩; replace B := Aside.mk (B.out.below hb); replace T := Aside.mk (T.out.trans (Chg.ofBelow hb _) (fun _ _ q => q)); clear hb; have z8 := Blk.cell B.out 8 _ rfl; have y8 := Blk.free B.out 8; have z13 := Blk.cell B.out 13 _ rfl; have y13 := Blk.free B.out 13) | (go_at_call 32; (with_reducible refine (hpf _).mono ?_); rintro e w' ⟨rfl, hw_⟩; have hw' := hw_.symm; clear hw_; subst hw') | (go_at_call 48; (with_reducible refine (hw _).mono ?_); rintro e w' ⟨rfl, hw_⟩; have hw' := hw_.symm; clear hw_; subst hw'))
      go_ret
      rw [← HQ.out]
      exact ⟨rfl, B.out, T.out⟩
  | false =>
    rw [hp] at hpf hw
    rw [if_neg (by simp)] at hw
    clear hp
    by_cases hf : f = 0
    · rw [if_neg (by simpa using hf)] at hq
      have f1 : (f == 0) = true := by simpa using hf
      have f2 : (f != 0) = false := by simpa using hf
      have HQ := Lib.hid hq
      clear hf hq HP
      go_enter Tryz.func52, Tryz.ntmps52
      go_wp2_with (first | (go_at_call 24; (with_reducible refine (hcut _ (HL.out _ T.out)).mono ?_); rintro e w1 ⟨rfl, hb⟩; replace B := Aside.mk (B.out.below hb); replace T := Aside.mk (T.out.trans (Chg.ofBelow hb _) (fun _ _ q => q)); clear hb; clear z3 y3) | (go_at_call 53; (with_reducible refine (hsg _).mono ?_); rintro e w1 ⟨rfl, hb⟩; replace B := Aside.mk (B.out.below hb); replace T := Aside.mk (T.out.trans (Chg.ofBelow hb _) (fun _ _ q => q)); clear hb) | (go_at_call 41; (with_reducible refine (hnm _ _ rfl).mono ?_); rintro e w1 ⟨rfl, hb⟩; replace B := Aside.mk (B.out.below hb); replace T := Aside.mk (T.out.trans (Chg.ofBelow hb _) (fun _ _ q => q)); clear hb; have z8 := Blk.cell B.out 8 _ rfl; have y8 := Blk.free B.out 8; have z13 := Blk.cell B.out 13 _ rfl; have y13 := Blk.free B.out 13) | (go_at_call 32; (with_reducible refine (hpf _).mono ?_); rintro e w' ⟨rfl, hw_⟩; have hw' := hw_.symm; clear hw_; subst hw') | (go_at_call 48; (with_reducible refine (hw _).mono ?_); rintro e w' ⟨rfl, hw_⟩; have hw' := hw_.symm; clear hw_; subst hw'))
      go_ret
      rw [← HQ.out]
      exact ⟨rfl, Blk.setEq (Blk.setEq B.out 13 _ (show _ = Ml.cells { { m with hB := true } with mode := md } from rfl)) 8 _ (show _ = Ml.cells { m with hB := true, mode := md, b := r1 } from rfl), (T.out.setCell (fun _ => rfl) _).setCell (fun _ => rfl) _⟩
    · rw [if_pos (by simpa using hf)] at hq
      have f1 : (f == 0) = false := by simpa using hf
      have f2 : (f != 0) = true := by simpa using hf
      have HQ := Lib.hid hq
      clear hf hq HP
      go_enter Tryz.func52, Tryz.ntmps52
      go_wp2_with (first | (go_at_call 24; (with_reducible refine (hcut _ (HL.out _ T.out)).mono ?_); rintro e w1 ⟨rfl, hb⟩; replace B := Aside.mk (B.out.below hb); replace T := Aside.mk (T.out.trans (Chg.ofBelow hb _) (fun _ _ q => q)); clear hb; clear z3 y3) | (go_at_call 53; (with_reducible refine (hsg _).mono ?_); rintro e w1 ⟨rfl, hb⟩; replace B := Aside.mk (B.out.below hb); replace T := Aside.mk (T.out.trans (Chg.ofBelow hb _) (fun _ _ q => q)); clear hb) | (go_at_call 41; (with_reducible refine (hnm _ _ rfl).mono ?_); rintro e w1 ⟨rfl, hb⟩; replace B := Aside.mk (B.out.below hb); replace T := Aside.mk (T.out.trans (Chg.ofBelow hb _) (fun _ _ q => q)); clear hb; have z8 := Blk.cell B.out 8 _ rfl; have y8 := Blk.free B.out 8; have z13 := Blk.cell B.out 13 _ rfl; have y13 := Blk.free B.out 13) | (go_at_call 32; (with_reducible refine (hpf _).mono ?_); rintro e w' ⟨rfl, hw_⟩; have hw' := hw_.symm; clear hw_; subst hw') | (go_at_call 48; (with_reducible refine (hw _).mono ?_); rintro e w' ⟨rfl, hw_⟩; have hw' := hw_.symm; clear hw_; subst hw'))
      go_ret
      rw [← HQ.out]
      exact ⟨rfl, B.out, T.out⟩
end Go.Proofs.YtllhbcpbihhdnaaGreatDoor
end
section
set_option linter.unusedVariables false
set_option linter.unusedSimpArgs false
namespace Go.Proofs.YtllhbcpbihhdnaaGreatDoor
open Go.RowKit Pm
set_option maxRecDepth 100000
namespace Pm
def nSuc : ByteArray := ⟨#[83, 85, 67, 67, 69, 83, 83]⟩
def nFai : ByteArray := ⟨#[70, 65, 73, 76, 85, 82, 69]⟩
def nDel : ByteArray := ⟨#[68, 69, 76, 65, 89]⟩
def nNev : ByteArray := ⟨#[78, 69, 86, 69, 82]⟩
/-- One notice: its letter, where its name is said. -/
def ntOne (st : List ByteArray × List UInt8) (nm : ByteArray) (c : UInt8) : List ByteArray × List UInt8 :=
  if 0 ≤ Lib.idxOfS st.1 nm then (st.1.take (Lib.idxOfS st.1 nm).toNat ++ st.1.drop ((Lib.idxOfS st.1 nm).toNat + 1), st.2 ++ [c]) else st
def ntAll (p : List ByteArray) : List ByteArray × List UInt8 := ntOne (ntOne (ntOne (p, []) nSuc 83) nFai 70) nDel 68
def notify (v : ByteArray) : List UInt8 × Int := if upB v = nNev then ([78], 0) else if (ntAll (parts 44 (upB v))).1 ≠ [] then ([], 2) else ((ntAll (parts 44 (upB v))).2, 0)
end Pm
theorem notices_any (w : World) : Calls Tryz.prog 77 #[] w fun e w' => e = .returned (.slice (some ⟨w.heap.size, 0, none⟩) 3 3) ∧ w' = w.alloc (.cells #[.string ⟨#[83]⟩, .string nSuc, .string ⟨#[70]⟩, .string nFai, .string ⟨#[68]⟩, .string nDel] 107) := by
  go_enter Tryz.func77, Tryz.ntmps77
  go_wp2
  go_ret
  exact ⟨rfl, rfl⟩
end Go.Proofs.YtllhbcpbihhdnaaGreatDoor
end
section
set_option linter.unusedVariables false
set_option linter.unusedSimpArgs false
namespace Go.Proofs.YtllhbcpbihhdnaaGreatDoor
open Go.RowKit Pm
set_option maxRecDepth 100000
theorem split_any (s : ByteArray) (b : UInt8) (w : World) (he : Lv w) (hs : s.size ≤ 1000000000) :
    Calls Tryz.prog 94 #[.string s, .string ⟨#[b]⟩] w fun e w' => e = .returned (.slice (some ⟨w.heap.size, 0, none⟩) (parts b s).length (parts b s).length) ∧ w' = w.alloc (.cells ((parts b s).map Value.string).toArray 9) := by
  have h1 := Tok.split_eq b s.size s (Nat.le_refl _)
  have h2 : Lib.splitB ⟨#[b]⟩ 0 (Lib.countB s ⟨#[b]⟩) s = parts b s := by
    unfold parts
    rw [← h1.1, List.map_map]
    have : ∀ l : List ByteArray, l.map ((fun l : List UInt8 => (⟨l.toArray⟩ : ByteArray)) ∘ fun x => x.data.toList) = l := fun l => by induction l <;> simp_all
    rw [this]
  have h3 : Lib.countB s ⟨#[b]⟩ + 1 = (parts b s).length := by rw [h1.2]; unfold parts; simp
  have h := Tryz.strings_Split_shaped s ⟨#[b]⟩ w he.shaped (by omega) (by show 1 ≤ 1; omega)
  rwa [h2, h3] at h
/-- In the midst of notify: the notices at nb; what is left of the texts, at the head of a row of c cells at sb. -/
structure NtW (w : World) (sb nb c : Nat) (zs : List ByteArray) (W : World) : Prop where
  low : Below w.heap.size w W
  sb0 : w.heap.size ≤ sb
  row : ∃ xs : List ByteArray, xs.length = c ∧ zs.length ≤ c ∧ xs.take zs.length = zs ∧ Blk W sb (xs.map Value.string).toArray 9
  ntc : Blk W nb #[.string ⟨#[83]⟩, .string nSuc, .string ⟨#[70]⟩, .string nFai, .string ⟨#[68]⟩, .string nDel] 107
theorem NtW.next {w : World} {sb nb c : Nat} {zs : List ByteArray} {W W' : World} (h : NtW w sb nb c zs W) (k : Below W.heap.size W W') : NtW w sb nb c zs W' := by
  obtain ⟨xs, h1, h2, h3, h4⟩ := h.row
  exact ⟨Below.next h.low k (Nat.le_refl _), h.sb0, ⟨xs, h1, h2, h3, h4.below k⟩, h.ntc.below k⟩
theorem NtW.alloc {w : World} {sb nb c : Nat} {zs : List ByteArray} {W : World} (h : NtW w sb nb c zs W) (o : Obj) : NtW w sb nb c zs (W.alloc o) := h.next ((Below.refl _ _).alloc (Nat.le_refl _) _)
theorem NtW.strs {w : World} {sb nb c : Nat} {zs : List ByteArray} {W : World} (h : NtW w sb nb c zs W) : ∀ j, j < zs.length → W.cell? ⟨sb, 0 + j, none⟩ = some (.string (zs.getD j ByteArray.empty)) := by
  obtain ⟨xs, h1, h2, h3, h4⟩ := h.row
  intro j hj
  rw [Nat.zero_add]
  refine h4.cell j _ ?_
  rw [← h3]
  simp only [List.getElem?_toArray, List.getElem?_map, List.getD_eq_getElem?_getD, List.getElem?_take]
  simp [hj, show j < xs.length by omega]
theorem index_nt {w : World} {sb nb c : Nat} {zs : List ByteArray} {W : World} (h : NtW w sb nb c zs W) (hc : c ≤ 1000000000) (x : ByteArray) :
    Calls Tryz.prog 66 #[.slice (some ⟨sb, 0, none⟩) zs.length c, .string x] W fun e w' => e = .returned (.int .i64 (Lib.idxOfS zs x)) ∧ w' = W := by
  obtain ⟨xs, h1, h2, h3, h4⟩ := h.row
  have := Tryz.slices_Index_string sb 0 zs.length c zs x W (Nat.le_refl _) (by omega) h.strs
  rwa [List.take_of_length_le (Nat.le_refl _)] at this
theorem index_at_nt {w : World} {sb nb c : Nat} {zs : List ByteArray} {W : World} (h : NtW w sb nb c zs W) (hc : c ≤ 1000000000) (x : ByteArray) (n : Int) (hn : Lib.idxOfS zs x = n) :
    Calls Tryz.prog 66 #[.slice (some ⟨sb, 0, none⟩) zs.length c, .string x] W fun e w' => e = .returned (.int .i64 n) ∧ w' = W := hn ▸ index_nt h hc x
theorem delete_nt {w : World} {sb nb c : Nat} {zs : List ByteArray} {W : World} (h : NtW w sb nb c zs W) (hc : c ≤ 1000000000) (hnb : sb ≠ nb) (i : Nat) (hi : i < zs.length) (j : Int) (hj : j = (i : Int) + 1) :
    Calls Tryz.prog 95 #[.slice (some ⟨sb, 0, none⟩) zs.length c, .int .i64 i, .int .i64 j] W fun e w' => e = .returned (.slice (some ⟨sb, 0, none⟩) (zs.take i ++ zs.drop (i + 1)).length c) ∧ NtW w sb nb c (zs.take i ++ zs.drop (i + 1)) w' := by
  obtain ⟨xs, h1, h2, h3, h4⟩ := h.row
  have hd := Tryz.slices_Delete_string_cells sb 0 zs.length c i (i + 1) (fun j => zs.getD j ByteArray.empty) W h2 (by omega) (by omega) (by omega) h.strs (fun j _ => by rw [Nat.zero_add]; exact h4.free j)
  subst hj
  rw [show ((i : Int) + 1) = ((i + 1 : Nat) : Int) by omega]
  refine hd.mono ?_
  rintro e w' ⟨rfl, q, rfl⟩
  have hz : Lib.strsOf (fun j => zs.getD j ByteArray.empty) zs.length = zs.map (·.data.toList) := by
    unfold Lib.strsOf
    apply List.ext_getElem
    · simp
    · intro k g1 g2
      simp at g1
      simp [List.getD_eq_getElem?_getD, g1]
  have hlen : (zs.take i ++ zs.drop (i + 1)).length = zs.length - (i + 1 - i) := by simp; omega
  refine ⟨by rw [hlen], ?_⟩
  have hlow := pw_below_drewN h.low q
  have hck := chg_setCells (b := sb) (((Lib.strsOf (fun j => zs.getD j ByteArray.empty) zs.length).take i ++ (Lib.strsOf (fun j => zs.getD j ByteArray.empty) zs.length).drop (i + 1) ++ List.replicate (i + 1 - i) []).map encStr) 0 (W.drewN q)
  refine ⟨hck.below hlow (fun k hk => hk ▸ h.sb0) hlow.size, h.sb0, ⟨zs.take i ++ zs.drop (i + 1) ++ [⟨#[]⟩] ++ xs.drop zs.length, ?_, ?_, ?_, ?_⟩, (show Blk (W.drewN q) nb _ _ from h.ntc).chg hck (fun e => hnb e.symm)⟩
  · simp; omega
  · simp; omega
  · rw [List.append_assoc, List.take_left']
    rfl
  · have hb := Blk.setCells (((Lib.strsOf (fun j => zs.getD j ByteArray.empty) zs.length).take i ++ (Lib.strsOf (fun j => zs.getD j ByteArray.empty) zs.length).drop (i + 1) ++ List.replicate (i + 1 - i) []).map encStr) 0 (show Blk (W.drewN q) sb _ _ from h4)
    have hs := setL_list (((Lib.strsOf (fun j => zs.getD j ByteArray.empty) zs.length).take i ++ (Lib.strsOf (fun j => zs.getD j ByteArray.empty) zs.length).drop (i + 1) ++ List.replicate (i + 1 - i) []).map encStr) [] (zs.map Value.string) ((xs.drop zs.length).map Value.string) (by rw [hz]; simp; omega)
    rw [List.nil_append, ← List.map_append, show zs ++ xs.drop zs.length = xs by conv => rhs; rw [← List.take_append_drop zs.length xs, h3]] at hs
    rw [List.length_nil] at hs
    rw [hs] at hb
    have he : ∀ x : ByteArray, encStr x.data.toList = .string x := fun x => rfl
    have e2 : ((zs.take i ++ zs.drop (i + 1) ++ ([⟨#[]⟩] : List ByteArray) ++ xs.drop zs.length).map Value.string) = [] ++ (((Lib.strsOf (fun j => zs.getD j ByteArray.empty) zs.length).take i ++ (Lib.strsOf (fun j => zs.getD j ByteArray.empty) zs.length).drop (i + 1) ++ List.replicate (i + 1 - i) []).map encStr) ++ ((xs.drop zs.length).map Value.string) := by
      rw [hz]
      have hr : List.replicate (i + 1 - i) ([] : List UInt8) = [[]] := by rw [Nat.add_sub_cancel_left]; rfl
      rw [hr]
      have hm : ∀ l : List ByteArray, (l.map (·.data.toList)).map encStr = l.map Value.string := fun l => by rw [List.map_map]; rfl
      simp only [List.map_append, ← List.map_take, ← List.map_drop, hm, List.nil_append, List.map_cons, List.map_nil]
      first | done | rfl
    rw [e2]
    exact hb
theorem txt_ne {x y : ByteArray} (h : x ≠ y) : (x.toList == y.toList) = false := by
  rw [beq_eq_false_iff_ne]
  intro e
  rw [Lib.toList_data, Lib.toList_data] at e
  exact h (ByteArray.ext (Array.toList_inj.1 e))
theorem split_count (c : UInt8) (n : Nat) : ∀ l : List UInt8, l.length ≤ n → (Tok.split c l).length ≤ l.length + 1 := by
  induction n with
  | zero =>
    intro l hl
    have : l = [] := List.eq_nil_of_length_eq_zero (by omega)
    subst this
    rw [Tok.split_no (by simp)]
    simp
  | succ n ih =>
    intro l hl
    rcases Tok.mem_or c l with h | ⟨q, r, rfl, hq⟩
    · rw [Tok.split_no h]
      simp
    · rw [Tok.split_at r hq]
      simp at hl ⊢
      have := ih r (by omega)
      omega
theorem parts_count (b : UInt8) (s : ByteArray) : (parts b s).length ≤ s.size + 1 := by
  unfold parts
  have := split_count b _ s.data.toList (Nat.le_refl _)
  simpa using this
theorem upB_size (v : ByteArray) : (upB v).size = v.size := by
  show (Txt.upper v.data.toList).toArray.size = v.size
  simp [Txt.upper]
theorem idx_lt (zs : List ByteArray) (x : ByteArray) : Lib.idxOfS zs x < zs.length := by
  have gen : ∀ (zs : List ByteArray) (i : Nat), Lib.idxFromS zs x i < ((i + zs.length : Nat) : Int) := by
    intro zs
    induction zs with
    | nil => intro i; simp [Lib.idxFromS]; omega
    | cons z zs ih =>
      intro i
      have := ih (i + 1)
      unfold Lib.idxFromS
      split
      · simp
        omega
      · simp at this ⊢
        omega
  have := gen zs 0
  simpa [Lib.idxOfS] using this
/-- What is left behind so many notices. -/
def ntK (p : List ByteArray) : Nat → List ByteArray × List UInt8
  | 0 => (p, [])
  | 1 => ntOne (p, []) nSuc 83
  | 2 => ntOne (ntOne (p, []) nSuc 83) nFai 70
  | _ => ntAll p
theorem ntOne_len (st : List ByteArray × List UInt8) (nm : ByteArray) (c : UInt8) : (ntOne st nm c).1.length ≤ st.1.length ∧ (ntOne st nm c).2.length ≤ st.2.length + 1 := by
  unfold ntOne
  split
  · simp; omega
  · simp
set_option maxHeartbeats 8000000 in
theorem notify_some (v : ByteArray) (hv : v.size ≤ 100000000) (hu : upB v ≠ nNev) (w : World) (hl : Lv w) :
    Calls Tryz.prog 56 #[.string v] w fun e w' => e = .returned (.tuple #[.string ⟨(Pm.notify v).1.toArray⟩, .int .i64 (Pm.notify v).2]) ∧ Below w.heap.size w w' := by
  have hup := fun W => param_upper v W (by omega)
  change ∀ W, Calls _ _ _ W (fun e w' => e = .returned (.string (upB v)) ∧ _) at hup
  have husz := upB_size v
  obtain ⟨u, hue⟩ : ∃ u, upB v = u := ⟨_, rfl⟩
  have HN : Hid (Pm.notify v = if (ntAll (parts 44 u)).1 ≠ [] then ([], 2) else ((ntAll (parts 44 u)).2, 0)) := Lib.hid (by unfold Pm.notify; rw [if_neg hu, hue])
  rw [hue] at hup hu husz
  have hsp := fun W hW => split_any u 44 W hW (by omega)
  have hplen := parts_count 44 u
  obtain ⟨p, hp⟩ : ∃ p, parts 44 u = p := ⟨_, rfl⟩
  rw [hp] at hsp HN hplen
  have he : (u.toList == nNev.toList) = false := txt_ne (hue ▸ hu)
  have he1 : (u.toList == [78, 69, 86, 69, 82]) = false := by rw [Lib.toList_data nNev] at he; exact he
  have HL := Aside.mk hl
  clear hl he hu hue hp
  go_enter Tryz.func56, Tryz.ntmps56
  go_wp2_with (first | (go_at_call 51; (with_reducible refine (hup _).mono ?_); rintro e w1 ⟨rfl, hb⟩) | (go_at_call 94; (with_reducible refine (hsp _ (HL.out.next hb)).mono ?_); rintro e w2 ⟨rfl, hw2⟩; subst hw2) | (go_at_call 77; (with_reducible refine (notices_any _).mono ?_); rintro e w3 ⟨rfl, hw3⟩; subst hw3))
  obtain ⟨sb, hsb⟩ : ∃ sb, w1.heap.size = sb := ⟨_, rfl⟩
  have R0 : NtW w sb (sb + 1) p.length p ((w1.alloc (.cells (p.map Value.string).toArray 9)).alloc (.cells #[.string ⟨#[83]⟩, .string nSuc, .string ⟨#[70]⟩, .string nFai, .string ⟨#[68]⟩, .string nDel] 107)) := by
    have hsz := hb.size
    refine ⟨(hb.alloc (by omega) _).alloc (by simp; omega) _, by omega, ⟨p, rfl, Nat.le_refl _, List.take_of_length_le (Nat.le_refl _), ?_⟩, ?_⟩
    · rw [← hsb]; exact (Blk.new _ _).old _
    · have := Blk.new (w := w1.alloc (.cells (p.map Value.string).toArray 9)) #[.string ⟨#[83]⟩, .string nSuc, .string ⟨#[70]⟩, .string nFai, .string ⟨#[68]⟩, .string nDel] 107
      rw [World.size_alloc, hsb] at this
      exact this
  have R := Aside.mk R0
  have HC := Aside.mk (show p.length ≤ 1000000000 from by omega)
  have HNE := Aside.mk (show sb ≠ sb + 1 from by omega)
  simp only [hsb, World.size_alloc]
  clear R0 hb
  go_loopw [4, 5, 17] (fun l out i wr => ∃ (k : Nat) (st : List ByteArray × List UInt8), k ≤ 3 ∧ i = .int .i64 k ∧ l = .slice (some ⟨sb, 0, none⟩) st.1.length p.length ∧ out = .string ⟨st.2.toArray⟩ ∧ Aside (st = ntK p k) ∧ Aside (NtW w sb (sb + 1) p.length st.1 wr)) (fun _ _ i _ => 3 - (intOf i).toNat)
  case atStart => exact ⟨0, (p, []), by omega, rfl, rfl, rfl, ⟨rfl⟩, R⟩
  case round =>
    clear R
    obtain ⟨k, ⟨zs, out⟩, hk, rfl, rfl, rfl, hst, R⟩ := hrel
    dsimp only at R hst ⊢
    have z0 := Blk.cell R.out.ntc 0 _ rfl
    have z1 := Blk.cell R.out.ntc 1 _ rfl
    have z2 := Blk.cell R.out.ntc 2 _ rfl
    have z3 := Blk.cell R.out.ntc 3 _ rfl
    have z4 := Blk.cell R.out.ntc 4 _ rfl
    have z5 := Blk.cell R.out.ntc 5 _ rfl
    have hzl := Aside.mk (show zs.length ≤ p.length from by obtain ⟨xs, h1, h2, h3, h4⟩ := R.out.row; exact h2)
    have hol : out.length ≤ 3 := by
      have h1 := ntOne_len (p, []) nSuc 83
      have h2 := ntOne_len (ntOne (p, []) nSuc 83) nFai 70
      have h3 := ntOne_len (ntOne (ntOne (p, []) nSuc 83) nFai 70) nDel 68
      have h0 : out = (ntK p k).2 := by rw [← hst.out]
      rw [h0]
      rcases (show k = 0 ∨ k = 1 ∨ k = 2 ∨ k = 3 by omega) with rfl | rfl | rfl | rfl
      · simp [ntK]
      · show (ntOne (p, []) nSuc 83).2.length ≤ 3
        simp at h1; omega
      · show (ntOne (ntOne (p, []) nSuc 83) nFai 70).2.length ≤ 3
        simp at h1; omega
      · show (ntOne (ntOne (ntOne (p, []) nSuc 83) nFai 70) nDel 68).2.length ≤ 3
        simp at h1; omega
    have hol2 : ¬ 9223372036854775807 < out.length + 1 := by omega
    rcases (show k = 0 ∨ k = 1 ∨ k = 2 ∨ k = 3 by omega) with rfl | rfl | rfl | rfl
    · by_cases hi : 0 ≤ Lib.idxOfS zs nSuc
      · have HST := show ntOne (zs, out) nSuc 83 = (zs.take (Lib.idxOfS zs nSuc).toNat ++ zs.drop ((Lib.idxOfS zs nSuc).toNat + 1), out ++ [83]) from by unfold ntOne; rw [if_pos hi]
        have hlt := idx_lt zs nSuc
        obtain ⟨i, hiN⟩ := Int.eq_ofNat_of_zero_le hi
        rw [hiN] at HST hlt
        rw [Int.toNat_natCast] at HST
        have HST := Aside.mk HST
        have Hi := Aside.mk (show i < zs.length from by omega)
        have hix : (i : Int) ≤ 1000000000 := by have := Hi.out; have := hzl.out; have := HC.out; omega
        have hiN := Lib.hid hiN
        clear hi hlt
        go_wp2_with (go_at_call 66; (with_reducible refine (index_at_nt (R.out.alloc _) HC.out nSuc _ hiN.out).mono ?_); rintro e w4 ⟨rfl, hw_⟩; have hw4 := hw_.symm; clear hw_; subst hw4)
        refine wp_loop_rounds 3 ?_
        rw [rounds_succ]
        go_wp2_with (go_at_call 95; (with_reducible refine (delete_nt (R.out.alloc _) HC.out HNE.out i Hi.out _ rfl).mono ?_); rintro e w5 ⟨rfl, hd_⟩; replace R := Aside.mk hd_; clear hd_)
        rw [rounds_succ]
        go_wp2
        go_roundw
        case rel => exact ⟨1, (zs.take i ++ zs.drop (i + 1), out ++ [83]), by omega, rfl, by simp, by congr 1, ⟨by rw [← HST.out, hst.out]; rfl⟩, R⟩
        case measure => simp [intOf]
      · have HST := Aside.mk (show ntOne (zs, out) nSuc 83 = (zs, out) from by unfold ntOne; rw [if_neg hi])
        obtain ⟨n, hn⟩ : ∃ n, Lib.idxOfS zs nSuc = n := ⟨_, rfl⟩
        rw [hn] at hi
        have hiN := Lib.hid hn
        have hi2 : decide (0 ≤ n) = false := by simpa using hi
        clear hn
        go_wp2_with (go_at_call 66; (with_reducible refine (index_at_nt (R.out.alloc _) HC.out nSuc _ hiN.out).mono ?_); rintro e w4 ⟨rfl, hw_⟩; have hw4 := hw_.symm; clear hw_; subst hw4)
        refine wp_loop_rounds 3 ?_
        rw [rounds_succ]
        go_wp2
        go_roundw
        case rel => exact ⟨1, (zs, out), by omega, rfl, rfl, rfl, ⟨by rw [← HST.out, hst.out]; rfl⟩, ⟨R.out.alloc _⟩⟩
        case measure => simp [intOf]
    · by_cases hi : 0 ≤ Lib.idxOfS zs nFai
      · have HST := show ntOne (zs, out) nFai 70 = (zs.take (Lib.idxOfS zs nFai).toNat ++ zs.drop ((Lib.idxOfS zs nFai).toNat + 1), out ++ [70]) from by unfold ntOne; rw [if_pos hi]
        have hlt := idx_lt zs nFai
        obtain ⟨i, hiN⟩ := Int.eq_ofNat_of_zero_le hi
        rw [hiN] at HST hlt
        rw [Int.toNat_natCast] at HST
        have HST := Aside.mk HST
        have Hi := Aside.mk (show i < zs.length from by omega)
        have hix : (i : Int) ≤ 1000000000 := by have := Hi.out; have := hzl.out; have := HC.out; omega
        have hiN := Lib.hid hiN
        clear hi hlt
        go_wp2_with (go_at_call 66; (with_reducible refine (index_at_nt (R.out.alloc _) HC.out nFai _ hiN.out).mono ?_); rintro e w4 ⟨rfl, hw_⟩; have hw4 := hw_.symm; clear hw_; subst hw4)
        refine wp_loop_rounds 3 ?_
        rw [rounds_succ]
        go_wp2_with (go_at_call 95; (with_reducible refine (delete_nt (R.out.alloc _) HC.out HNE.out i Hi.out _ rfl).mono ?_); rintro e w5 ⟨rfl, hd_⟩; replace R := Aside.mk hd_; clear hd_)
        rw [rounds_succ]
        go_wp2
        go_roundw
        case rel => exact ⟨2, (zs.take i ++ zs.drop (i + 1), out ++ [70]), by omega, rfl, by simp, by congr 1, ⟨by rw [← HST.out, hst.out]; rfl⟩, R⟩
        case measure => simp [intOf]
      · have HST := Aside.mk (show ntOne (zs, out) nFai 70 = (zs, out) from by unfold ntOne; rw [if_neg hi])
        obtain ⟨n, hn⟩ : ∃ n, Lib.idxOfS zs nFai = n := ⟨_, rfl⟩
        rw [hn] at hi
        have hiN := Lib.hid hn
        have hi2 : decide (0 ≤ n) = false := by simpa using hi
        clear hn
        go_wp2_with (go_at_call 66; (with_reducible refine (index_at_nt (R.out.alloc _) HC.out nFai _ hiN.out).mono ?_); rintro e w4 ⟨rfl, hw_⟩; have hw4 := hw_.symm; clear hw_; subst hw4)
        refine wp_loop_rounds 3 ?_
        rw [rounds_succ]
        go_wp2
        go_roundw
        case rel => exact ⟨2, (zs, out), by omega, rfl, rfl, rfl, ⟨by rw [← HST.out, hst.out]; rfl⟩, ⟨R.out.alloc _⟩⟩
        case measure => simp [intOf]
    · by_cases hi : 0 ≤ Lib.idxOfS zs nDel
      · have HST := show ntOne (zs, out) nDel 68 = (zs.take (Lib.idxOfS zs nDel).toNat ++ zs.drop ((Lib.idxOfS zs nDel).toNat + 1), out ++ [68]) from by unfold ntOne; rw [if_pos hi]
        have hlt := idx_lt zs nDel
        obtain ⟨i, hiN⟩ := Int.eq_ofNat_of_zero_le hi
        rw [hiN] at HST hlt
        rw [Int.toNat_natCast] at HST
        have HST := Aside.mk HST
        have Hi := Aside.mk (show i < zs.length from by omega)
        have hix : (i : Int) ≤ 1000000000 := by have := Hi.out; have := hzl.out; have := HC.out; omega
        have hiN := Lib.hid hiN
        clear hi hlt
        go_wp2_with (go_at_call 66; (with_reducible refine (index_at_nt (R.out.alloc _) HC.out nDel _ hiN.out).mono ?_); rintro e w4 ⟨rfl, hw_⟩; have hw4 := hw_.symm; clear hw_; subst hw4)
        refine wp_loop_rounds 3 ?_
        rw [rounds_succ]
        go_wp2_with (go_at_call 95; (with_reducible refine (delete_nt (R.out.alloc _) HC.out HNE.out i Hi.out _ rfl).mono ?_); rintro e w5 ⟨rfl, hd_⟩; replace R := Aside.mk hd_; clear hd_)
        rw [rounds_succ]
        go_wp2
        go_roundw
        case rel => exact ⟨3, (zs.take i ++ zs.drop (i + 1), out ++ [68]), by omega, rfl, by simp, by congr 1, ⟨by rw [← HST.out, hst.out]; rfl⟩, R⟩
        case measure => simp [intOf]
      · have HST := Aside.mk (show ntOne (zs, out) nDel 68 = (zs, out) from by unfold ntOne; rw [if_neg hi])
        obtain ⟨n, hn⟩ : ∃ n, Lib.idxOfS zs nDel = n := ⟨_, rfl⟩
        rw [hn] at hi
        have hiN := Lib.hid hn
        have hi2 : decide (0 ≤ n) = false := by simpa using hi
        clear hn
        go_wp2_with (go_at_call 66; (with_reducible refine (index_at_nt (R.out.alloc _) HC.out nDel _ hiN.out).mono ?_); rintro e w4 ⟨rfl, hw_⟩; have hw4 := hw_.symm; clear hw_; subst hw4)
        refine wp_loop_rounds 3 ?_
        rw [rounds_succ]
        go_wp2
        go_roundw
        case rel => exact ⟨3, (zs, out), by omega, rfl, rfl, rfl, ⟨by rw [← HST.out, hst.out]; rfl⟩, ⟨R.out.alloc _⟩⟩
        case measure => simp [intOf]
    · have hall : ntAll p = (zs, out) := hst.out.symm
      rw [hall] at HN
      have hR := Aside.mk R.out.low
      cases zs with
      | nil =>
        have HM : Hid (Pm.notify v = (out, 0)) := Lib.hid (by rw [HN.out]; rfl)
        clear hall hst
        go_wp2
        go_ret2
        exact ⟨by rw [HM.out]; rfl, hR.out⟩
      | cons z zs =>
        have HM : Hid (Pm.notify v = ([], 2)) := Lib.hid (by rw [HN.out]; rfl)
        clear hall hst
        go_wp2
        go_ret2
        exact ⟨by rw [HM.out]; rfl, hR.out⟩
theorem notify_never (v : ByteArray) (hv : v.size ≤ 100000000) (hu : upB v = nNev) (w : World) :
    Calls Tryz.prog 56 #[.string v] w fun e w' => e = .returned (.tuple #[.string ⟨(Pm.notify v).1.toArray⟩, .int .i64 (Pm.notify v).2]) ∧ Below w.heap.size w w' := by
  have hup := fun W => param_upper v W (by omega)
  change ∀ W, Calls _ _ _ W (fun e w' => e = .returned (.string (upB v)) ∧ _) at hup
  rw [hu] at hup
  have HN : Hid (Pm.notify v = ([78], 0)) := Lib.hid (by unfold Pm.notify; rw [if_pos hu])
  have he1 : (nNev.toList == [78, 69, 86, 69, 82]) = true := by rw [Lib.toList_data]; rfl
  clear hu
  go_enter Tryz.func56, Tryz.ntmps56
  go_wp2_with (go_at_call 51; (with_reducible refine (hup _).mono ?_); rintro e w1 ⟨rfl, hb⟩)
  go_ret2
  exact ⟨by rw [HN.out]; rfl, hb⟩
theorem notify_any (v : ByteArray) (hv : v.size ≤ 100000000) (w : World) (hl : Lv w) :
    Calls Tryz.prog 56 #[.string v] w fun e w' => e = .returned (.tuple #[.string ⟨(Pm.notify v).1.toArray⟩, .int .i64 (Pm.notify v).2]) ∧ Below w.heap.size w w' := by
  by_cases hu : upB v = nNev
  · exact notify_never v hv hu w
  · exact notify_some v hv hu w hl
end Go.Proofs.YtllhbcpbihhdnaaGreatDoor
end
section
set_option linter.unusedVariables false
set_option linter.unusedSimpArgs false
namespace Go.Proofs.YtllhbcpbihhdnaaGreatDoor
open Go.RowKit Pm
set_option maxRecDepth 100000
namespace Pm
def stNt (v : ByteArray) (r : Rc) : Rc × Int := ({ r with nt := ⟨(notify v).1.toArray⟩ }, (notify v).2)
def stOc (v : ByteArray) (r : Rc) : Rc × Int :=
  if typed (Lib.cut v.data.toList [59]).1 = false then (r, 2) else ({ r with kd := ⟨(Txt.upper (Lib.cut v.data.toList [59]).1).toArray⟩, oc := ⟨(decoded (Lib.cut v.data.toList [59]).2.1 256).1.toArray⟩ }, (decoded (Lib.cut v.data.toList [59]).2.1 256).2)
end Pm
set_option maxHeartbeats 4000000 in
theorem cl_nt (v : ByteArray) (mb : Nat) (m : Rc) (W : World) (hm : Blk W mb m.cells 29) (hv : v.size ≤ 100000000) (hlv : Lv W) :
    Calls Tryz.prog 55 #[.string v, .pointer (some ⟨mb, 0, none⟩)] W fun e W' => e = .returned (.int .i64 (stNt v m).2) ∧ Blk W' mb (stNt v m).1.cells 29 ∧ Chg (fun k => k = mb) W W' := by
  have hn := notify_any v hv W hlv
  unfold stNt
  obtain ⟨q, hq⟩ : ∃ q, Pm.notify v = q := ⟨_, rfl⟩
  rw [hq] at hn ⊢
  obtain ⟨n, e⟩ := q
  dsimp only at hn ⊢
  obtain ⟨nb, hnb⟩ : ∃ nb : ByteArray, (⟨n.toArray⟩ : ByteArray) = nb := ⟨_, rfl⟩
  rw [hnb] at hn ⊢
  clear hq hnb
  have B := Aside.mk hm
  have T := Aside.mk (Chg.refl (fun k => k = mb) W)
  clear hm
  go_enter Tryz.func55, Tryz.ntmps55
  go_wp2_with (go_at_call 56; (with_reducible refine (hn).mono ?_); rintro e w1 ⟨rfl, hb⟩; replace B := Aside.mk (B.out.below hb); replace T := Aside.mk (T.out.trans (Chg.ofBelow hb _) (fun _ _ q => q)); clear hb; have z0 := Blk.cell B.out 0 _ rfl; have y0 := Blk.free B.out 0)
  go_ret
  exact ⟨rfl, Blk.setEq B.out 0 _ rfl, T.out.setCell (fun _ => rfl) _⟩
set_option maxHeartbeats 4000000 in
theorem cl_oc (v : ByteArray) (mb : Nat) (m : Rc) (W : World) (hm : Blk W mb m.cells 29) (hv : v.size ≤ 100000000) (hlv : Lv W) :
    Calls Tryz.prog 57 #[.string v, .pointer (some ⟨mb, 0, none⟩)] W fun e W' => e = .returned (.int .i64 (stOc v m).2) ∧ Blk W' mb (stOc v m).1.cells 29 ∧ Chg (fun k => k = mb) W W' := by
  have hcut := cut_any v ⟨#[59]⟩ W hlv (by omega)
  have hcs : (Lib.cut v.data.toList [59]).1.length ≤ v.size ∧ (Lib.cut v.data.toList [59]).2.1.length ≤ v.size := by
    have h1 : v.data.toList.length = v.size := by simp
    rw [← h1]
    unfold Lib.cut
    split
    · simp; omega
    · simp
  have hty := fun W => typed_any ⟨(Lib.cut v.data.toList [59]).1.toArray⟩ W (by show (Lib.cut v.data.toList [59]).1.toArray.size ≤ _; simp; omega)
  have hup := fun W => param_upper ⟨(Lib.cut v.data.toList [59]).1.toArray⟩ W (by show (Lib.cut v.data.toList [59]).1.toArray.size ≤ _; simp; omega)
  have hde := fun W => decoded_any ⟨(Lib.cut v.data.toList [59]).2.1.toArray⟩ 256 W (by show (Lib.cut v.data.toList [59]).2.1.toArray.size ≤ _; simp; omega)
  rw [show (⟨#[59]⟩ : ByteArray).data.toList = [59] from rfl] at hcut
  rw [show (⟨(Lib.cut v.data.toList [59]).1.toArray⟩ : ByteArray).data.toList = (Lib.cut v.data.toList [59]).1 from rfl] at hty hup
  rw [show (⟨(Lib.cut v.data.toList [59]).2.1.toArray⟩ : ByteArray).data.toList = (Lib.cut v.data.toList [59]).2.1 from rfl] at hde
  obtain ⟨q, hq⟩ : ∃ q, stOc v m = q := ⟨_, rfl⟩
  rw [hq]
  unfold stOc at hq
  clear hcs
  obtain ⟨cc, hcc⟩ : ∃ cc, Lib.cut v.data.toList [59] = cc := ⟨_, rfl⟩
  rw [hcc] at hcut hty hup hde hq
  obtain ⟨c1, c2, c3⟩ := cc
  dsimp only at hcut hty hup hde hq
  obtain ⟨dd, hdd⟩ : ∃ dd, decoded c2 256 = dd := ⟨_, rfl⟩
  rw [hdd] at hde hq
  obtain ⟨d, e⟩ := dd
  obtain ⟨ub, hub⟩ : ∃ ub : ByteArray, (⟨(Txt.upper c1).toArray⟩ : ByteArray) = ub := ⟨_, rfl⟩
  obtain ⟨db, hdb⟩ : ∃ db : ByteArray, (⟨d.toArray⟩ : ByteArray) = db := ⟨_, rfl⟩
  obtain ⟨t1, ht1⟩ : ∃ t1 : ByteArray, (⟨c1.toArray⟩ : ByteArray) = t1 := ⟨_, rfl⟩
  obtain ⟨t2, ht2⟩ : ∃ t2 : ByteArray, (⟨c2.toArray⟩ : ByteArray) = t2 := ⟨_, rfl⟩
  dsimp only at hde hq
  rw [hub] at hup hq
  rw [hdb] at hde hq
  rw [ht1] at hcut hty hup
  rw [ht2] at hcut hde
  clear hcc hdd hub hdb ht1 ht2
  have B := Aside.mk hm
  have T := Aside.mk (Chg.refl (fun k => k = mb) W)
  clear hm
  cases ht : typed c1 with
  | false =>
    rw [ht] at hty hq
    rw [if_pos rfl] at hq
    have HQ := Lib.hid hq
    clear ht hq
    go_enter Tryz.func57, Tryz.ntmps57
    go_wp2_with (first | (go_at_call 24; (with_reducible refine (hcut).mono ?_); rintro e w1 ⟨rfl, hb⟩; replace B := Aside.mk (B.out.below hb); replace T := Aside.mk (T.out.trans (Chg.ofBelow hb _) (fun _ _ q => q)); clear hb) | (go_at_call 58; (with_reducible refine (hty _).mono ?_); rintro e w1 ⟨rfl, hb⟩; replace B := Aside.mk (B.out.below hb); replace T := Aside.mk (T.out.trans (Chg.ofBelow hb _) (fun _ _ q => q)); clear hb))
    go_ret
    rw [← HQ.out]
    exact ⟨rfl, B.out, T.out⟩
  | true =>
    rw [ht] at hty hq
    rw [if_neg (by simp)] at hq
    have HQ := Lib.hid hq
    clear ht hq
    go_enter Tryz.func57, Tryz.ntmps57
    go_wp2_with (first | (go_at_call 24; (with_reducible refine (hcut).mono ?_); rintro e w1 ⟨rfl, hb⟩; replace B := Aside.mk (B.out.below hb); replace T := Aside.mk (T.out.trans (Chg.ofBelow hb _) (fun _ _ q => q)); clear hb) | (go_at_call 58; (with_reducible refine (hty _).mono ?_); rintro e w1 ⟨rfl, hb⟩; replace B := Aside.mk (B.out.below hb); replace T := Aside.mk (T.out.trans (Chg.ofBelow hb _) (fun _ _ q => q)); clear hb) | (go_at_call 51; (with_reducible refine (hup _).mono ?_); rintro e w1 ⟨rfl, hb⟩; replace B := Aside.mk (B.out.below hb); replace T := Aside.mk (T.out.trans (Chg.ofBelow hb _) (fun _ _ q => q)); clear hb; have z1 := Blk.cell B.out 1 _ rfl; have y1 := Blk.free B.out 1) | (go_at_call 46; (with_reducible refine (hde _).mono ?_); rintro e w1 ⟨rfl, hb⟩; replace B := Aside.mk ((Blk.setEq B.out 1 _ rfl : Blk _ mb (Rc.cells { m with kd := ub }) _).below hb); replace T := Aside.mk ((T.out.setCell (fun _ => rfl) _).trans (Chg.ofBelow hb _) (fun _ _ q => q)); clear hb z1 y1; have z2 := Blk.cell B.out 2 _ rfl; have y2 := Blk.free B.out 2))
    go_ret
    rw [← HQ.out]
    exact ⟨rfl, Blk.setEq B.out 2 _ rfl, T.out.setCell (fun _ => rfl) _⟩
end Go.Proofs.YtllhbcpbihhdnaaGreatDoor
end
section
set_option linter.unusedVariables false
set_option linter.unusedSimpArgs false
namespace Go.Proofs.YtllhbcpbihhdnaaGreatDoor
open Go.RowKit
set_option maxRecDepth 100000
set_option maxHeartbeats 2000000 in
theorem of_no (n : Int) (w : World) (h : n < 0 ∨ 2932896 < n) :
    Calls Tryz.prog 104 #[.int .i64 n] w fun e w' => e = .returned (.tuple #[.agg #[.int .i64 0, .int .i64 0, .int .i64 0], .int .i64 1]) ∧ Below w.heap.size w w' := by
  rcases h with h | h
  · go_enter Tryz.func104, Tryz.ntmps104
    go_wp2
    exact bodyPost_ret (v := .tuple #[.agg #[.int .i64 0, .int .i64 0, .int .i64 0], .int .i64 1]) (by simp [results, Tryz.results104, go_sem]) rfl ⟨rfl, (Below.refl _ _).alloc (Nat.le_refl _) _⟩
  · go_enter Tryz.func104, Tryz.ntmps104
    go_wp2
    exact bodyPost_ret (v := .tuple #[.agg #[.int .i64 0, .int .i64 0, .int .i64 0], .int .i64 1]) (by simp [results, Tryz.results104, go_sem]) rfl ⟨rfl, (Below.refl _ _).alloc (Nat.le_refl _) _⟩
set_option maxHeartbeats 2000000 in
theorem of_yes (n : Int) (w : World) (h0 : 0 ≤ n) (h1 : n ≤ 2932896) :
    Calls Tryz.prog 104 #[.int .i64 n] w fun e w' => e = .returned (.tuple #[.agg #[.int .i64 (DtCal.ofD n).1, .int .i64 (DtCal.ofD n).2.1, .int .i64 (DtCal.ofD n).2.2], .int .i64 0]) ∧ DtCal.IsDate n (DtCal.ofD n) ∧ Below w.heap.size w w' := by
  have hg := DtCal.guess n h0 h1
  have h1970 : DtCal.dby 1970 = 719162 := by decide
  have l70 : DtCal.dby 1970 ≤ 719162 := by omega
  have g70 : 719162 ≤ DtCal.dby 1970 := by omega
  clear h1970
  go_enter Tryz.func104, Tryz.ntmps104
  go_wp2
  go_loop [4] (fun t => ∃ y : Int, 1970 ≤ y ∧ y ≤ 9999 ∧ DtCal.dby y - 719162 ≤ n ∧ t = .int .i64 y) (fun t => (9999 - intOf t).toNat)
  case atStart => exact ⟨_, by omega, by omega, hg, rfl⟩
  case round =>
    obtain ⟨y, hy1, hy2, hy3, rfl⟩ := hrel
    have bd := DtCal.dby_bd y (by omega) (by omega)
    have bd2 := DtCal.dby_bd (y + 1) (by omega) (by omega)
    by_cases hc : DtCal.dby (y + 1) - DtCal.dby 1970 ≤ n
    · have hlt : y < 9999 := by
        rcases Int.lt_or_le y 9998 with h | h
        · omega
        · by_cases h' : y = 9998
          · omega
          obtain rfl : y = 9999 := by omega
          have : DtCal.dby (9999 + 1) = 3652059 := by decide
          omega
      go_wp2_with (go_at_call 122; refine (before_any _ _ (by omega) (by omega)).mono ?_; rintro e w' ⟨rfl, rfl⟩)
      go_round
      case rel => exact ⟨y + 1, by omega, by omega, by omega, rfl⟩
      case measure => simp [intOf]; omega
    · have hs := DtCal.dby_succ y (by omega)
      have hlp := DtCal.lp_01 y
      have HS := Lib.hid hs
      have hz : n + 719162 < DtCal.dby y + 365 + DtCal.lp y := by omega
      clear hs
      go_wp2_with (go_at_call 122; refine (before_any _ _ (by omega) (by omega)).mono ?_; rintro e w' ⟨rfl, rfl⟩)
      have hyear := DtCal.cum_all y
      go_loopw [0] (fun t wr => ∃ m : Nat, 1 ≤ m ∧ m ≤ 12 ∧ 0 ≤ n - (DtCal.dby y - DtCal.dby 1970) - DtCal.cum y (m - 1) ∧ t = .int .i64 (n - (DtCal.dby y - DtCal.dby 1970) - DtCal.cum y (m - 1)) ∧
          Aside (Blk wr w.heap.size #[.int .i64 0, .int .i64 0, .int .i64 0] 124) ∧ Aside (Blk wr (w.heap.size + 1) #[.int .i64 y, .int .i64 m, .int .i64 0] 124) ∧ Below w.heap.size w wr)
        (fun t _ => (intOf t).toNat)
      case atStart =>
        refine ⟨1, by omega, by omega, by simp [DtCal.cum]; omega, by simp [DtCal.cum], ⟨Blk.old (Blk.new _ _) _⟩, ⟨?_⟩, ((Below.refl _ _).alloc (Nat.le_refl _) _).alloc (by simp) _⟩
        have := Blk.new (w := w.alloc (.cells #[.int .i64 0, .int .i64 0, .int .i64 0] 124)) #[.int .i64 y, .int .i64 ((1 : Nat) : Int), .int .i64 0] 124
        simpa using this
      case round =>
        obtain ⟨m, hm1, hm2, hm3, rfl, ⟨b0⟩, ⟨b1⟩, hbw⟩ := hrel
        have hcb := DtCal.cum_bd y (m - 1)
        have hlb := DtCal.len_bd y m
        have hll := DtCal.len_lo y m (by omega) (by omega)
        have c1 := b1.cell 1 _ rfl
        have f1 := b1.free 1
        by_cases hd : DtCal.len y m ≤ n - (DtCal.dby y - DtCal.dby 1970) - DtCal.cum y (m - 1)
        · have hm12 : m < 12 := by
            rcases Nat.lt_or_ge m 12 with h | h
            · exact h
            · obtain rfl : m = 12 := by omega
              have e1 : DtCal.cum y 12 = DtCal.cum y (12 - 1) + DtCal.len y (12 : Nat) := rfl
              have := HS.out
              omega
          have HC : Hid (DtCal.cum y (m + 1 - 1) = DtCal.cum y (m - 1) + DtCal.len y m) := by
            obtain ⟨j, rfl⟩ : ∃ j, m = j + 1 := ⟨m - 1, by omega⟩
            simp [Hid, DtCal.cum]
          clear hyear
          go_wp2_with (go_at_call 123; refine (len_any _ _ _).mono ?_; rintro e w2 ⟨rfl, hb2⟩; have b0 := Blk.below b0 hb2; have b1 := Blk.below b1 hb2; have hbw := Below.next hbw hb2 (Nat.le_refl _); have c1 := Blk.cell b1 1 _ rfl; have f1 := Blk.free b1 1)
          go_roundw
          case rel =>
            refine ⟨m + 1, by omega, by omega, by rw [HC.out]; omega, by rw [HC.out]; congr 1; omega, ⟨b0.setOther _ (by simp)⟩, ⟨?_⟩, hbw.setCell (by simp) _⟩
            have := b1.set 1 (.int .i64 ((m : Int) + 1))
            simpa using this
          case measure => simp [intOf]; omega
        · clear hyear
          go_wp2_with (go_at_call 123; refine (len_any _ _ _).mono ?_; rintro e w2 ⟨rfl, hb2⟩; have b0 := Blk.below b0 hb2; have b1 := Blk.below b1 hb2; have hbw := Below.next hbw hb2 (Nat.le_refl _); have c1 := Blk.cell b1 1 _ rfl; have f1 := Blk.free b1 1; have c0 := Blk.cell b1 0 _ rfl; have c2 := Blk.cell b1 2 _ rfl; have f2 := Blk.free b1 2; have z0 := Blk.cell b0 0 _ rfl; have z1 := Blk.cell b0 1 _ rfl; have z2 := Blk.cell b0 2 _ rfl; have y0 := Blk.free b0 0; have y1 := Blk.free b0 1; have y2 := Blk.free b0 2)
          have hr : DtCal.right y m (n - (DtCal.dby y - DtCal.dby 1970) - DtCal.cum y (m - 1) + 1) = true := DtCal.right_iff.2 ⟨by omega, by omega, by omega, by omega, by omega⟩
          have hD : DtCal.IsDate n (y, (m : Int), n - (DtCal.dby y - DtCal.dby 1970) - DtCal.cum y (m - 1) + 1) := ⟨hr, by rw [DtCal.days_val hr]; simp only [Int.toNat_natCast]; omega⟩
          rw [DtCal.ofD_eq hD]
          refine bodyPost_ret (v := .tuple #[.agg #[.int .i64 y, .int .i64 m, .int .i64 (n - (DtCal.dby y - DtCal.dby 1970) - DtCal.cum y (m - 1) + 1)], .int .i64 0]) (by simp [results, Tryz.results104, go_sem, z0, z1, z2]) rfl ⟨rfl, hD, ?_⟩
          exact (((hbw.setCell (by simp) _).setCell (Nat.le_refl _) _).setCell (Nat.le_refl _) _).setCell (Nat.le_refl _) _
end Go.Proofs.YtllhbcpbihhdnaaGreatDoor
end
section
set_option linter.unusedVariables false
set_option linter.unusedSimpArgs false
namespace Go.Proofs.YtllhbcpbihhdnaaGreatDoor
open Go.RowKit
set_option maxRecDepth 100000
theorem text_eq {x y : ByteArray} (h : (x.toList == y.toList) = true) : x = y := by
  have h2 : x.toList = y.toList := by simpa using h
  rw [Lib.toList_data, Lib.toList_data] at h2
  exact ByteArray.ext (Array.toList_inj.1 h2)
theorem rightRcpt_any (nt kd oc : ByteArray) (w : World) (hk : kd.size ≤ 1000000000) : Calls Tryz.prog 76 #[.agg #[.string nt, .string kd, .string oc]] w fun e w' => e = .returned (.int .i64 (Pm.rightRcpt nt kd oc)) ∧ Below w.heap.size w w' := by
  cases hcon : Lib.containsS [⟨#[]⟩, ⟨#[78]⟩, ⟨#[83]⟩, ⟨#[70]⟩, ⟨#[68]⟩, ⟨#[83, 70]⟩, ⟨#[83, 68]⟩, ⟨#[70, 68]⟩, ⟨#[83, 70, 68]⟩] nt with
  | false => rw [show Pm.rightRcpt nt kd oc = 2 by unfold Pm.rightRcpt; rw [if_pos hcon]]; exact rr_A nt kd oc hcon w hk
  | true =>
    have hn : ¬ (Lib.containsS [⟨#[]⟩, ⟨#[78]⟩, ⟨#[83]⟩, ⟨#[70]⟩, ⟨#[68]⟩, ⟨#[83, 70]⟩, ⟨#[83, 68]⟩, ⟨#[70, 68]⟩, ⟨#[83, 70, 68]⟩] nt = false) := by rw [hcon]; simp
    cases e1 : (kd.toList == []) with
    | true =>
      have e1' : (kd.toList != []) = false := by simp only [bne, e1]; rfl
      cases e2 : (oc.toList == []) with
      | false => rw [show Pm.rightRcpt nt kd oc = 2 by unfold Pm.rightRcpt; rw [if_neg hn, if_pos (by simp [Pm.empty, e1, e2])]]; exact rr_B1 nt kd oc hcon e1 e1' e2 w hk
      | true =>
        have hq : ¬ ((Pm.empty kd != Pm.empty oc) = true ∨ (Pm.empty kd = false ∧ (Pm.typed kd.data.toList = false ∨ (⟨(Txt.upper kd.data.toList).toArray⟩ : ByteArray) ≠ kd))) := by simp [Pm.empty, e1, e2]
        by_cases hz : (256 : Int) < (oc.size : Int)
        · rw [show Pm.rightRcpt nt kd oc = 3 by unfold Pm.rightRcpt; rw [if_neg hn, if_neg hq, if_pos hz]]; exact rr_Cs nt kd oc hcon e1 e1' e2 hz w hk
        · rw [show Pm.rightRcpt nt kd oc = 0 by unfold Pm.rightRcpt; rw [if_neg hn, if_neg hq, if_neg hz]]; exact rr_Co nt kd oc hcon e1 e1' e2 hz w hk
    | false =>
      have e1' : (kd.toList != []) = true := by simp only [bne, e1]; rfl
      cases e2 : (oc.toList == []) with
      | true => rw [show Pm.rightRcpt nt kd oc = 2 by unfold Pm.rightRcpt; rw [if_neg hn, if_pos (by simp [Pm.empty, e1, e2])]]; exact rr_B2 nt kd oc hcon e1 e1' e2 w hk
      | false =>
        cases rty : Pm.typed kd.data.toList with
        | false => rw [show Pm.rightRcpt nt kd oc = 2 by unfold Pm.rightRcpt; rw [if_neg hn, if_pos (.inr ⟨e1, .inl rty⟩)]]; exact rr_D1 nt kd oc hcon e1 e1' e2 rty w hk
        | true =>
          cases e3 : ((⟨(Txt.upper kd.data.toList).toArray⟩ : ByteArray).toList == kd.toList) with
          | false =>
            have hne : (⟨(Txt.upper kd.data.toList).toArray⟩ : ByteArray) ≠ kd := fun q => by rw [q] at e3; simp at e3
            rw [show Pm.rightRcpt nt kd oc = 2 by unfold Pm.rightRcpt; rw [if_neg hn, if_pos (.inr ⟨e1, .inr hne⟩)]]
            exact rr_D2 nt kd oc hcon e1 e1' e2 rty _ rfl e3 (by simp only [bne, e3]; rfl) w hk
          | true =>
            have heq := text_eq e3
            have hq : ¬ ((Pm.empty kd != Pm.empty oc) = true ∨ (Pm.empty kd = false ∧ (Pm.typed kd.data.toList = false ∨ (⟨(Txt.upper kd.data.toList).toArray⟩ : ByteArray) ≠ kd))) := by
              rintro (q | ⟨_, q | q⟩)
              · simp [Pm.empty, e1, e2] at q
              · rw [rty] at q; cases q
              · exact q heq
            have e4 : ((⟨(Txt.upper kd.data.toList).toArray⟩ : ByteArray).toList != kd.toList) = false := by simp only [bne, e3]; rfl
            by_cases hz : (256 : Int) < (oc.size : Int)
            · rw [show Pm.rightRcpt nt kd oc = 3 by unfold Pm.rightRcpt; rw [if_neg hn, if_neg hq, if_pos hz]]; exact rr_Ds nt kd oc hcon e1 e1' e2 rty _ rfl e3 e4 hz w hk
            · rw [show Pm.rightRcpt nt kd oc = 0 by unfold Pm.rightRcpt; rw [if_neg hn, if_neg hq, if_neg hz]]; exact rr_Do nt kd oc hcon e1 e1' e2 rty _ rfl e3 e4 hz w hk
end Go.Proofs.YtllhbcpbihhdnaaGreatDoor
end
section
set_option linter.unusedVariables false
set_option linter.unusedSimpArgs false
namespace Pt
open Go.Lib
theorem beh_no {lo rl : List UInt8} (h : (Tok.cut 62 rl).2.2 = false) : behind lo rl = bad 2 := by unfold behind; rw [if_pos h]
theorem beh_at {lo rl : List UInt8} (h : (Tok.cut 62 rl).2.2 = true) (h2 : hasPrefix (Tok.cut 62 rl).1 [64] = false) : behind lo rl = bad 2 := by
  unfold behind
  rw [if_neg (by rw [h]; decide)]
  split
  · rename_i heq
    rw [heq] at h2
    simp [hasPrefix] at h2
  · rfl
theorem beh_dom {lo rl dom : List UInt8} (h : (Tok.cut 62 rl).2.2 = true) (h2 : (Tok.cut 62 rl).1 = 64 :: dom) : behind lo rl =
    if ((domain dom).2 = 3 ∧ shaped dom = true) ∨ ((domain dom).2 = 0 ∧ 64 < lo.length) then bad 3 else if (domain dom).2 ≠ 0 then bad 2 else ((lo, (domain dom).1), (Tok.cut 62 rl).2.1, 0) := by
  unfold behind
  rw [if_neg (by rw [h]; decide), h2]
  rfl
theorem parse_no {l : List UInt8} (h : hasPrefix l [60] = false) : parse l = bad 2 := by
  unfold parse
  split
  · simp [hasPrefix] at h
  · simp [hasPrefix] at h
  · simp [hasPrefix] at h
  · rfl
theorem parse_plain {t : List UInt8} (h1 : hasPrefix t [62] = false) (h2 : hasPrefix t [34] = false) : parse (60 :: t) = plainly t := by
  cases t with
  | nil => rfl
  | cons x r =>
    have k1 : x ≠ 62 := fun e => by simp [hasPrefix, e] at h1
    have k2 : x ≠ 34 := fun e => by simp [hasPrefix, e] at h2
    unfold parse
    split
    · rename_i heq; simp at heq; exact absurd heq.1 k1
    · rename_i heq; simp at heq; exact absurd heq.1 k2
    · rename_i heq; simp at heq; rw [← heq]
    · rename_i q1 q2 q3; exact absurd rfl (q3 _)
theorem plain_neg {t : List UInt8} (h : indexAny t [64, 62] < 0) : plainly t = bad 2 := by unfold plainly; rw [if_pos (.inl h)]
theorem plain_bad {t : List UInt8} {n : Nat} (h : indexAny t [64, 62] = (n : Int)) (ha : atoms (t.take n) = false) : plainly t = bad 2 := by
  unfold plainly
  rw [if_pos (.inr (by rw [h]; exact ha))]
theorem plain_post {t b : List UInt8} {n : Nat} (h : indexAny t [64, 62] = (n : Int)) (ha : atoms (t.take n) = true) (hd : t.drop n = 62 :: b) : plainly t = if toLowerA (t.take n) ≠ post then bad 2 else ((post, []), b, 0) := by
  unfold plainly
  simp only [h, Int.toNat_natCast]
  rw [if_neg (by rw [ha]; rintro (q | q); omega; cases q), hd]
  rfl
theorem plain_behind {t : List UInt8} {n : Nat} (h : indexAny t [64, 62] = (n : Int)) (ha : atoms (t.take n) = true) (hd : hasPrefix (t.drop n) [62] = false) : plainly t = behind (t.take n) (t.drop n) := by
  unfold plainly
  simp only [h, Int.toNat_natCast]
  rw [if_neg (by rw [ha]; rintro (q | q); omega; cases q)]
  split
  · rename_i heq
    rw [heq] at hd
    simp [hasPrefix] at hd
  · rfl
end Pt
namespace Go.Proofs.YtllhbcpbihhdnaaGreatDoor
open Go.RowKit Go.Shelf
set_option maxRecDepth 100000
theorem qrun_len : ∀ (n : Nat) (q acc lo r : List UInt8), q.length ≤ n → Pt.qrun q acc = some (lo, r) → r.length ≤ q.length
  | 0, q, acc, lo, r, hn, h => by
    have : q = [] := List.eq_nil_of_length_eq_zero (by omega)
    subst this
    simp [Pt.qrun] at h
  | n + 1, q, acc, lo, r, hn, h => by
    match q with
    | [] => simp [Pt.qrun] at h
    | [c] =>
      rw [Pt.qrun] at h
      split at h
      · cases h; simp
      · cases h
    | c :: d :: q =>
      rw [Pt.qrun] at h
      split at h
      · cases h; simp
      · split at h
        · split at h
          · have := qrun_len n q _ lo r (by simp at hn; omega) h
            simp; omega
          · cases h
        · split at h
          · have := qrun_len n (d :: q) _ lo r (by simp at hn ⊢; omega) h
            simp at this ⊢; omega
          · cases h
/-- What Parse hands back. -/
def ptVal (p : (List UInt8 × List UInt8) × List UInt8 × Int) : Value := .tuple #[.agg #[.string ⟨p.1.1.toArray⟩, .string ⟨p.1.2.toArray⟩], .string ⟨p.2.1.toArray⟩, .int .i64 p.2.2]
theorem ba_of (l : List UInt8) : (⟨l.toArray⟩ : ByteArray).data.toList = l := by simp
theorem ba_size (l : List UInt8) : (⟨l.toArray⟩ : ByteArray).size = l.length := by simp [ByteArray.size]
theorem ba_eta (s : ByteArray) : (⟨s.data.toList.toArray⟩ : ByteArray) = s := by apply ByteArray.ext; simp
theorem cut_len (c : UInt8) : ∀ l : List UInt8, (Tok.cut c l).1.length ≤ l.length
  | [] => by simp [Tok.cut]
  | x :: l => by
    unfold Tok.cut
    split
    · simp
    · have := cut_len c l
      simp
      omega
set_option maxHeartbeats 2000000 in
theorem tail_t (s : ByteArray) (hs : s.size ≤ 100000) (t : ByteArray) (h1 : Lib.hasPrefix s.data.toList [60] = true) (ht : (⟨(Lib.trimPrefix s.data.toList [60]).toArray⟩ : ByteArray) = t) (h2 : Lib.hasPrefix t.data.toList [62] = false) (hts : t.size ≤ 100000) (h3 : Lib.hasPrefix t.data.toList [34] = false) (n : Nat) (hx : Lib.indexAny t.data.toList [64, 62] = (n : Int)) (hn : n < t.size) (lo rest : ByteArray) (hlo' : t.extract 0 n = lo) (hre : t.extract n t.size = rest) (h5 : Pt.atoms lo.data.toList = true) (h6 : Lib.hasPrefix rest.data.toList [62] = false) (hrz : rest.size ≤ 100000) (w : World) (hl : Lv w) : Calls Tryz.prog 12 #[.string s] w fun e w' => e = .returned (ptVal (Pt.behind lo.data.toList rest.data.toList)) ∧ Below w.heap.size w w' := by
  have hcq := Tok.cut_eq 62 rest.data.toList
  cases hok : (Tok.cut 62 rest.data.toList).2.2 with
  | false =>
    rw [Pt.beh_no hok]
    exact pathParse_t1 s hs t h1 ht h2 hts h3 n hx hn lo rest hlo' hre h5 h6 _ _ rfl rfl (by rw [hcq]; exact hok) w hl
  | true =>
    have c3 : (Lib.cut rest.data.toList [62]).2.2 = true := by rw [hcq]; exact hok
    have ha : (⟨(Lib.cut rest.data.toList [62]).1.toArray⟩ : ByteArray).data.toList = (Tok.cut 62 rest.data.toList).1 := by rw [ba_of, hcq]
    cases hat : Lib.hasPrefix (Tok.cut 62 rest.data.toList).1 [64] with
    | false =>
      rw [Pt.beh_at hok hat]
      exact pathParse_t2 s hs t h1 ht h2 hts h3 n hx hn lo rest hlo' hre h5 h6 _ _ rfl rfl c3 _ rfl (by rw [ha]; exact hat) w hl
    | true =>
      obtain ⟨dom, hdom⟩ := pre_one.1 hat
      have g2 : Lib.hasPrefix (⟨(Lib.cut rest.data.toList [62]).1.toArray⟩ : ByteArray).data.toList [64] = true := by rw [ha]; exact hat
      have htr : (⟨(Lib.trimPrefix (⟨(Lib.cut rest.data.toList [62]).1.toArray⟩ : ByteArray).data.toList [64]).toArray⟩ : ByteArray).data.toList = dom := by rw [ba_of, ha, hdom, trim_one]
      have hdl : dom.length ≤ 100000 := by
        have h1 := cut_len 62 rest.data.toList
        rw [hdom] at h1
        have h2 : rest.data.toList.length = rest.size := by simp
        simp at h1
        omega
      have has2 : (⟨(Lib.trimPrefix (⟨(Lib.cut rest.data.toList [62]).1.toArray⟩ : ByteArray).data.toList [64]).toArray⟩ : ByteArray).size ≤ 100000 := by
        rw [ba_size]
        rw [ba_of] at htr
        rw [htr]
        exact hdl
      rw [Pt.beh_dom hok hdom]
      have hlo : lo.data.toList.length = lo.size := by simp
      by_cases e3 : (Pt.domain dom).2 = 3
      · have g4 : (Pt.domain (⟨(Lib.trimPrefix (⟨(Lib.cut rest.data.toList [62]).1.toArray⟩ : ByteArray).data.toList [64]).toArray⟩ : ByteArray).data.toList).2 = 3 := by rw [htr]; exact e3
        cases hsh : Pt.shaped dom with
        | true =>
          rw [if_pos (.inl ⟨e3, rfl⟩)]
          exact pathParse_t3 s hs t h1 ht h2 hts h3 n hx hn lo rest hlo' hre h5 h6 _ _ rfl rfl c3 _ rfl g2 has2 _ rfl g4 (by rw [htr]; exact hsh) w hl
        | false =>
          rw [if_neg (by rw [e3]; rintro (⟨_, q⟩ | ⟨q, _⟩); exact Bool.noConfusion q; exact absurd q (by decide)), if_pos (by rw [e3]; decide)]
          exact pathParse_t4 s hs t h1 ht h2 hts h3 n hx hn lo rest hlo' hre h5 h6 _ _ rfl rfl c3 _ rfl g2 has2 _ rfl g4 (by rw [htr]; exact hsh) w hl
      · by_cases e0 : (Pt.domain dom).2 = 0
        · have g4 : (Pt.domain (⟨(Lib.trimPrefix (⟨(Lib.cut rest.data.toList [62]).1.toArray⟩ : ByteArray).data.toList [64]).toArray⟩ : ByteArray).data.toList).2 = 0 := by rw [htr]; exact e0
          by_cases h64 : 64 < lo.size
          · rw [if_pos (.inr ⟨e0, by omega⟩)]
            exact pathParse_t6 s hs t h1 ht h2 hts h3 n hx hn lo rest hlo' hre h5 h6 _ _ rfl rfl c3 _ rfl g2 has2 _ rfl g4 (decide_eq_true (by omega)) w hl
          · rw [if_neg (by rintro (⟨q, _⟩ | ⟨_, q⟩); exact e3 q; omega), if_neg (by rw [e0]; decide)]
            refine (pathParse_t7 s hs t h1 ht h2 hts h3 n hx hn lo rest hlo' hre h5 h6 _ _ rfl rfl c3 _ rfl g2 has2 _ rfl g4 (decide_eq_false (by omega)) w hl).mono fun e w' ⟨h1, h2⟩ => ⟨?_, h2⟩
            rw [h1]
            unfold ptVal
            simp only
            have e5 : Lib.trimPrefix (Lib.cut rest.data.toList [62]).1 [64] = dom := by have := htr; rw [ba_of, ba_of] at this; exact this
            rw [e5, hcq, ba_eta]
        · have g4 : (Pt.domain (⟨(Lib.trimPrefix (⟨(Lib.cut rest.data.toList [62]).1.toArray⟩ : ByteArray).data.toList [64]).toArray⟩ : ByteArray).data.toList).2 = (Pt.domain dom).2 := by rw [htr]
          rw [if_neg (by rintro (⟨q, _⟩ | ⟨q, _⟩); exact e3 q; exact e0 q), if_pos e0]
          exact pathParse_t5 s hs t h1 ht h2 hts h3 n hx hn lo rest hlo' hre h5 h6 _ _ rfl rfl c3 _ rfl g2 has2 _ _ rfl g4 (by simpa using e3) (by simpa using e0) (by simpa using e0) w hl
set_option maxHeartbeats 2000000 in
theorem tail_u (s : ByteArray) (hs : s.size ≤ 100000) (t : ByteArray) (h1 : Lib.hasPrefix s.data.toList [60] = true) (ht : (⟨(Lib.trimPrefix s.data.toList [60]).toArray⟩ : ByteArray) = t) (h2 : Lib.hasPrefix t.data.toList [62] = false) (hts : t.size ≤ 100000) (h3 : Lib.hasPrefix t.data.toList [34] = true) (lo rest : ByteArray) (hrs : rest.size ≤ 100000) (q1 : (⟨(Pt.quo t.data.toList).1.toArray⟩ : ByteArray) = lo) (q2 : (⟨(Pt.quo t.data.toList).2.1.toArray⟩ : ByteArray) = rest) (q3 : (Pt.quo t.data.toList).2.2 = true) (q4 : lo.toList.isEmpty = false) (hrz : rest.size ≤ 100000) (w : World) (hl : Lv w) : Calls Tryz.prog 12 #[.string s] w fun e w' => e = .returned (ptVal (Pt.behind lo.data.toList rest.data.toList)) ∧ Below w.heap.size w w' := by
  have hcq := Tok.cut_eq 62 rest.data.toList
  cases hok : (Tok.cut 62 rest.data.toList).2.2 with
  | false =>
    rw [Pt.beh_no hok]
    exact pathParse_u1 s hs t h1 ht h2 hts h3 lo rest hrs q1 q2 q3 q4 _ _ rfl rfl (by rw [hcq]; exact hok) w hl
  | true =>
    have c3 : (Lib.cut rest.data.toList [62]).2.2 = true := by rw [hcq]; exact hok
    have ha : (⟨(Lib.cut rest.data.toList [62]).1.toArray⟩ : ByteArray).data.toList = (Tok.cut 62 rest.data.toList).1 := by rw [ba_of, hcq]
    cases hat : Lib.hasPrefix (Tok.cut 62 rest.data.toList).1 [64] with
    | false =>
      rw [Pt.beh_at hok hat]
      exact pathParse_u2 s hs t h1 ht h2 hts h3 lo rest hrs q1 q2 q3 q4 _ _ rfl rfl c3 _ rfl (by rw [ha]; exact hat) w hl
    | true =>
      obtain ⟨dom, hdom⟩ := pre_one.1 hat
      have g2 : Lib.hasPrefix (⟨(Lib.cut rest.data.toList [62]).1.toArray⟩ : ByteArray).data.toList [64] = true := by rw [ha]; exact hat
      have htr : (⟨(Lib.trimPrefix (⟨(Lib.cut rest.data.toList [62]).1.toArray⟩ : ByteArray).data.toList [64]).toArray⟩ : ByteArray).data.toList = dom := by rw [ba_of, ha, hdom, trim_one]
      have hdl : dom.length ≤ 100000 := by
        have h1 := cut_len 62 rest.data.toList
        rw [hdom] at h1
        have h2 : rest.data.toList.length = rest.size := by simp
        simp at h1
        omega
      have has2 : (⟨(Lib.trimPrefix (⟨(Lib.cut rest.data.toList [62]).1.toArray⟩ : ByteArray).data.toList [64]).toArray⟩ : ByteArray).size ≤ 100000 := by
        rw [ba_size]
        rw [ba_of] at htr
        rw [htr]
        exact hdl
      rw [Pt.beh_dom hok hdom]
      have hlo : lo.data.toList.length = lo.size := by simp
      by_cases e3 : (Pt.domain dom).2 = 3
      · have g4 : (Pt.domain (⟨(Lib.trimPrefix (⟨(Lib.cut rest.data.toList [62]).1.toArray⟩ : ByteArray).data.toList [64]).toArray⟩ : ByteArray).data.toList).2 = 3 := by rw [htr]; exact e3
        cases hsh : Pt.shaped dom with
        | true =>
          rw [if_pos (.inl ⟨e3, rfl⟩)]
          exact pathParse_u3 s hs t h1 ht h2 hts h3 lo rest hrs q1 q2 q3 q4 _ _ rfl rfl c3 _ rfl g2 has2 _ rfl g4 (by rw [htr]; exact hsh) w hl
        | false =>
          rw [if_neg (by rw [e3]; rintro (⟨_, q⟩ | ⟨q, _⟩); exact Bool.noConfusion q; exact absurd q (by decide)), if_pos (by rw [e3]; decide)]
          exact pathParse_u4 s hs t h1 ht h2 hts h3 lo rest hrs q1 q2 q3 q4 _ _ rfl rfl c3 _ rfl g2 has2 _ rfl g4 (by rw [htr]; exact hsh) w hl
      · by_cases e0 : (Pt.domain dom).2 = 0
        · have g4 : (Pt.domain (⟨(Lib.trimPrefix (⟨(Lib.cut rest.data.toList [62]).1.toArray⟩ : ByteArray).data.toList [64]).toArray⟩ : ByteArray).data.toList).2 = 0 := by rw [htr]; exact e0
          by_cases h64 : 64 < lo.size
          · rw [if_pos (.inr ⟨e0, by omega⟩)]
            exact pathParse_u6 s hs t h1 ht h2 hts h3 lo rest hrs q1 q2 q3 q4 _ _ rfl rfl c3 _ rfl g2 has2 _ rfl g4 (decide_eq_true (by omega)) w hl
          · rw [if_neg (by rintro (⟨q, _⟩ | ⟨_, q⟩); exact e3 q; omega), if_neg (by rw [e0]; decide)]
            refine (pathParse_u7 s hs t h1 ht h2 hts h3 lo rest hrs q1 q2 q3 q4 _ _ rfl rfl c3 _ rfl g2 has2 _ rfl g4 (decide_eq_false (by omega)) w hl).mono fun e w' ⟨h1, h2⟩ => ⟨?_, h2⟩
            rw [h1]
            unfold ptVal
            simp only
            have e5 : Lib.trimPrefix (Lib.cut rest.data.toList [62]).1 [64] = dom := by have := htr; rw [ba_of, ba_of] at this; exact this
            rw [e5, hcq, ba_eta]
        · have g4 : (Pt.domain (⟨(Lib.trimPrefix (⟨(Lib.cut rest.data.toList [62]).1.toArray⟩ : ByteArray).data.toList [64]).toArray⟩ : ByteArray).data.toList).2 = (Pt.domain dom).2 := by rw [htr]
          rw [if_neg (by rintro (⟨q, _⟩ | ⟨q, _⟩); exact e3 q; exact e0 q), if_pos e0]
          exact pathParse_u5 s hs t h1 ht h2 hts h3 lo rest hrs q1 q2 q3 q4 _ _ rfl rfl c3 _ rfl g2 has2 _ _ rfl g4 (by simpa using e3) (by simpa using e0) (by simpa using e0) w hl
theorem ext_take (s : ByteArray) (k : Nat) : (s.extract 0 k).data.toList = s.data.toList.take k := by simp [List.extract_eq_take_drop]
theorem ext_from (s : ByteArray) (k : Nat) : (s.extract k s.size).data.toList = s.data.toList.drop k := by
  have := ext_drop s k
  rw [ByteArray.data_extract, this]
set_option maxHeartbeats 2000000 in
theorem pathParse_any (s : ByteArray) (hs : s.size ≤ 100000) (w : World) (hl : Lv w) : Calls Tryz.prog 12 #[.string s] w fun e w' => e = .returned (ptVal (Pt.parse s.data.toList)) ∧ Below w.heap.size w w' := by
  have hsl : s.data.toList.length = s.size := by simp
  cases h1 : Lib.hasPrefix s.data.toList [60] with
  | false =>
    rw [Pt.parse_no h1]
    exact pathParse_a s hs h1 w hl
  | true =>
    obtain ⟨tl, htl⟩ := pre_one.1 h1
    obtain ⟨t, ht⟩ : ∃ t, (⟨(Lib.trimPrefix s.data.toList [60]).toArray⟩ : ByteArray) = t := ⟨_, rfl⟩
    have htd : t.data.toList = tl := by rw [← ht, ba_of, htl, trim_one]
    have htz : t.data.toList.length = t.size := by simp
    have hts : t.size ≤ 100000 := by
      rw [htl] at hsl
      rw [htd] at htz
      simp at hsl
      omega
    rw [htl]
    cases h2 : Lib.hasPrefix t.data.toList [62] with
    | true =>
      obtain ⟨r, hr⟩ := pre_one.1 h2
      have hpe : Pt.parse (60 :: tl) = (([], []), r, 0) := by rw [← htd, hr]; rfl
      rw [hpe]
      refine (pathParse_b s hs t h1 ht _ h2 rfl w hl).mono fun e w' ⟨k1, k2⟩ => ⟨?_, k2⟩
      rw [k1, hr, trim_one]
      rfl
    | false =>
      cases h3 : Lib.hasPrefix t.data.toList [34] with
      | true =>
        obtain ⟨q, hq⟩ := pre_one.1 h3
        have hpe : Pt.parse (60 :: tl) = Pt.quoted q := by rw [← htd, hq]; rfl
        rw [hpe]
        have hqu : Pt.quo t.data.toList = match Pt.qrun q [] with
          | some (lo, rest) => (lo, rest, true)
          | none => ([], [], false) := by rw [hq]; rfl
        unfold Pt.quoted
        cases hr : Pt.qrun q [] with
        | none =>
          rw [hr] at hqu
          simp only at hqu ⊢
          exact pathParse_q1 s hs t h1 ht h2 hts h3 ⟨#[]⟩ ⟨#[]⟩ (by decide) (by rw [hqu]) (by rw [hqu]) (by rw [hqu]) w hl
        | some p =>
          obtain ⟨lo, rest⟩ := p
          rw [hr] at hqu
          simp only at hqu ⊢
          have hrl := qrun_len _ q [] lo rest (Nat.le_refl _) hr
          have hql : q.length ≤ 100000 := by rw [hq] at htz; simp at htz; omega
          by_cases h0 : lo = []
          · rw [if_pos h0]
            subst h0
            exact pathParse_q2 s hs t h1 ht h2 hts h3 ⟨#[]⟩ ⟨rest.toArray⟩ (by rw [ba_size]; omega) (by rw [hqu]) (by rw [hqu]) (by rw [hqu]) (by kernel_rfl) w hl
          · rw [if_neg h0]
            have := tail_u s hs t h1 ht h2 hts h3 ⟨lo.toArray⟩ ⟨rest.toArray⟩ (by rw [ba_size]; omega) (by rw [hqu]) (by rw [hqu]) (by rw [hqu]) (by rw [Lib.toList_data, ba_of]; cases lo with
              | nil => exact absurd rfl h0
              | cons x r => rfl) (by rw [ba_size]; omega) w hl
            rwa [ba_of, ba_of] at this
      | false =>
        rw [Pt.parse_plain (by rw [← htd]; exact h2) (by rw [← htd]; exact h3), ← htd]
        by_cases hneg : Lib.indexAny t.data.toList [64, 62] < 0
        · rw [Pt.plain_neg hneg]
          exact pathParse_p1 s hs t h1 ht h2 hts h3 _ rfl hneg w hl
        · obtain ⟨n, hn⟩ : ∃ n : Nat, Lib.indexAny t.data.toList [64, 62] = (n : Int) := ⟨(Lib.indexAny t.data.toList [64, 62]).toNat, by omega⟩
          obtain ⟨hnl, hin1, x, r, hdr, hxm⟩ := Pt.index_any_not hn
          have hnt : n < t.size := by omega
          have el := ext_take t n
          have er := ext_from t n
          have erz : (t.extract n t.size).size ≤ 100000 := by simp; omega
          cases hat : Pt.atoms (t.data.toList.take n) with
          | false =>
            rw [Pt.plain_bad hn hat]
            exact pathParse_p2 s hs t h1 ht h2 hts h3 n hn hnt _ _ rfl rfl (by rw [el]; exact hat) w hl
          | true =>
            cases h6 : Lib.hasPrefix (t.data.toList.drop n) [62] with
            | true =>
              obtain ⟨b, hb⟩ := pre_one.1 h6
              rw [Pt.plain_post hn hat hb]
              by_cases hpo : Lib.toLowerA (t.data.toList.take n) = Pt.post
              · rw [if_neg (not_not_intro hpo)]
                refine (pathParse_p4 s hs t h1 ht h2 hts h3 n hn hnt _ _ rfl rfl (by rw [el]; exact hat) _ (by rw [er]; exact h6) rfl _ rfl (by rw [Lib.toList_data, ba_of, el, hpo]; rfl) (by rw [Lib.toList_data, ba_of, el, hpo]; rfl) w hl).mono fun e w' ⟨k1, k2⟩ => ⟨?_, k2⟩
                rw [k1, er, hb, trim_one]
                rfl
              · rw [if_pos hpo]
                exact pathParse_p3 s hs t h1 ht h2 hts h3 n hn hnt _ _ rfl rfl (by rw [el]; exact hat) _ (by rw [er]; exact h6) rfl _ rfl (by rw [Lib.toList_data, ba_of, el]; exact bne_iff_ne.2 hpo) (by rw [Lib.toList_data, ba_of, el]; exact beq_eq_false_iff_ne.2 hpo) w hl
            | false =>
              rw [Pt.plain_behind hn hat h6]
              have := tail_t s hs t h1 ht h2 hts h3 n hn hnt _ _ rfl rfl (by rw [el]; exact hat) (by rw [er]; exact h6) erz w hl
              rwa [el, er] at this
end Go.Proofs.YtllhbcpbihhdnaaGreatDoor
end
