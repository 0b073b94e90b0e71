/-
  Walks of the package param: RightMail.
-/
import Derived.Test.YtllhbcpbihhdnaaGreatDoorQ1
import Derived.Outline
set_option linter.unusedVariables false
set_option linter.unusedSimpArgs false
namespace Go.Proofs.YtllhbcpbihhdnaaGreatDoor
open Go.RowKit
set_option maxRecDepth 100000
namespace Pm
def least (mode : ByteArray) : Int := if Lib.hasPrefix mode.data.toList [82] = true then 1 else -999999999
def rightMail (hS hF hU hB hP : Bool) (s f u b p : Int) (body ret envid mode : ByteArray) : Int :=
  if (said hS s && said hF f && said hU u && said hB b && said hP p) = false then 2
  else if (among body [⟨#[55, 66, 73, 84]⟩, ⟨#[56, 66, 73, 84, 77, 73, 77, 69]⟩] && among ret [⟨#[70, 85, 76, 76]⟩, ⟨#[72, 68, 82, 83]⟩] && among mode [⟨#[82]⟩, ⟨#[78]⟩, ⟨#[82, 84]⟩, ⟨#[78, 84]⟩] && !(empty mode == hB)) = false then 2
  else if (inn hS s 0 999999999 && inn hF f 1 1048576 && inn hU u 0 253402300799 && inn hB b (least mode) 999999999 && inn hP p (-9) 9) = false then 1
  else if (100 : Int) < (envid.size : Int) then 3 else if (hF && hU) = true then 9 else 0
end Pm
set_option maxHeartbeats 16000000 in
theorem rightMail_true (hS hF hU hB hP : Bool) (s f u b p : Int) (body ret envid mode : ByteArray) (hp : Lib.hasPrefix mode.data.toList [82] = true) (w : World) :
    Calls Tryz.prog 70 #[.agg #[.bool hS, .bool hF, .bool hU, .bool hB, .bool hP, .int .i64 s, .int .i64 f, .int .i64 u, .int .i64 b, .int .i64 p, .string body, .string ret, .string envid, .string mode]] w fun e w' => e = .returned (.int .i64 (Pm.rightMail hS hF hU hB hP s f u b p body ret envid mode)) ∧ Below w.heap.size w w' := by
  have M : Aside (Mine w [(w.heap.size + 1, #[.bool hS, .bool hF, .bool hU, .bool hB, .bool hP], 25), (w.heap.size, #[.bool hS, .bool hF, .bool hU, .bool hB, .bool hP, .int .i64 s, .int .i64 f, .int .i64 u, .int .i64 b, .int .i64 p, .string body, .string ret, .string envid, .string mode], 27)] ((w.alloc (.cells #[.bool hS, .bool hF, .bool hU, .bool hB, .bool hP, .int .i64 s, .int .i64 f, .int .i64 u, .int .i64 b, .int .i64 p, .string body, .string ret, .string envid, .string mode] 27)).alloc (.cells #[.bool hS, .bool hF, .bool hU, .bool hB, .bool hP] 25))) := ⟨by have := ((Mine.start w).alloc #[.bool hS, .bool hF, .bool hU, .bool hB, .bool hP, .int .i64 s, .int .i64 f, .int .i64 u, .int .i64 b, .int .i64 p, .string body, .string ret, .string envid, .string mode] 27).alloc #[.bool hS, .bool hF, .bool hU, .bool hB, .bool hP] 25; simpa using this⟩
  have hpre := fun W => Tryz.strings_HasPrefix mode ⟨#[82]⟩ W
  rw [show (⟨#[82]⟩ : ByteArray).data.toList = [82] from rfl, hp] at hpre
  have hle : Pm.least mode = 1 := by unfold Pm.least; rw [hp]; rfl
  obtain ⟨rr, hrr⟩ : ∃ rr, Pm.rightMail hS hF hU hB hP s f u b p body ret envid mode = rr := ⟨_, rfl⟩
  rw [hrr]
  unfold Pm.rightMail at hrr
  rw [hle] at hrr
  obtain ⟨t0, ht0⟩ : ∃ t, Pm.said hS s = t := ⟨_, rfl⟩
  have c0 := fun W => said_any hS s W
  rw [ht0] at c0 hrr
  clear ht0
  obtain ⟨t1, ht1⟩ : ∃ t, Pm.said hF f = t := ⟨_, rfl⟩
  have c1 := fun W => said_any hF f W
  rw [ht1] at c1 hrr
  clear ht1
  obtain ⟨t2, ht2⟩ : ∃ t, Pm.said hU u = t := ⟨_, rfl⟩
  have c2 := fun W => said_any hU u W
  rw [ht2] at c2 hrr
  clear ht2
  obtain ⟨t3, ht3⟩ : ∃ t, Pm.said hB b = t := ⟨_, rfl⟩
  have c3 := fun W => said_any hB b W
  rw [ht3] at c3 hrr
  clear ht3
  obtain ⟨t4, ht4⟩ : ∃ t, Pm.said hP p = t := ⟨_, rfl⟩
  have c4 := fun W => said_any hP p W
  rw [ht4] at c4 hrr
  clear ht4
  obtain ⟨t5, ht5⟩ : ∃ t, Pm.among body [⟨#[55, 66, 73, 84]⟩, ⟨#[56, 66, 73, 84, 77, 73, 77, 69]⟩] = t := ⟨_, rfl⟩
  rw [ht5] at hrr
  have HC5 := Lib.hid (show (#[.string ⟨#[55, 66, 73, 84]⟩, .string ⟨#[56, 66, 73, 84, 77, 73, 77, 69]⟩] : Array Value) = (([⟨#[55, 66, 73, 84]⟩, ⟨#[56, 66, 73, 84, 77, 73, 77, 69]⟩] : List ByteArray).map Value.string).toArray from rfl)
  have HT5 := Lib.hid ht5
  clear ht5
  obtain ⟨t6, ht6⟩ : ∃ t, Pm.among ret [⟨#[70, 85, 76, 76]⟩, ⟨#[72, 68, 82, 83]⟩] = t := ⟨_, rfl⟩
  rw [ht6] at hrr
  have HC6 := Lib.hid (show (#[.string ⟨#[70, 85, 76, 76]⟩, .string ⟨#[72, 68, 82, 83]⟩] : Array Value) = (([⟨#[70, 85, 76, 76]⟩, ⟨#[72, 68, 82, 83]⟩] : List ByteArray).map Value.string).toArray from rfl)
  have HT6 := Lib.hid ht6
  clear ht6
  obtain ⟨t7, ht7⟩ : ∃ t, Pm.among mode [⟨#[82]⟩, ⟨#[78]⟩, ⟨#[82, 84]⟩, ⟨#[78, 84]⟩] = t := ⟨_, rfl⟩
  rw [ht7] at hrr
  have HC7 := Lib.hid (show (#[.string ⟨#[82]⟩, .string ⟨#[78]⟩, .string ⟨#[82, 84]⟩, .string ⟨#[78, 84]⟩] : Array Value) = (([⟨#[82]⟩, ⟨#[78]⟩, ⟨#[82, 84]⟩, ⟨#[78, 84]⟩] : List ByteArray).map Value.string).toArray from rfl)
  have HT7 := Lib.hid ht7
  clear ht7
  obtain ⟨t8, ht8⟩ : ∃ t, (Pm.empty mode == hB) = t := ⟨_, rfl⟩
  rw [ht8] at hrr
  unfold Pm.empty at ht8
  obtain ⟨t9, ht9⟩ : ∃ t, Pm.inn hS s 0 999999999 = t := ⟨_, rfl⟩
  have c9 := fun W => inn_any hS s 0 999999999 W
  rw [ht9] at c9 hrr
  clear ht9
  obtain ⟨t10, ht10⟩ : ∃ t, Pm.inn hF f 1 1048576 = t := ⟨_, rfl⟩
  have c10 := fun W => inn_any hF f 1 1048576 W
  rw [ht10] at c10 hrr
  clear ht10
  obtain ⟨t11, ht11⟩ : ∃ t, Pm.inn hU u 0 253402300799 = t := ⟨_, rfl⟩
  have c11 := fun W => inn_any hU u 0 253402300799 W
  rw [ht11] at c11 hrr
  clear ht11
  obtain ⟨t12, ht12⟩ : ∃ t, Pm.inn hB b 1 999999999 = t := ⟨_, rfl⟩
  have c12 := fun W => inn_any hB b 1 999999999 W
  rw [ht12] at c12 hrr
  clear ht12
  obtain ⟨t13, ht13⟩ : ∃ t, Pm.inn hP p (-9) 9 = t := ⟨_, rfl⟩
  have c13 := fun W => inn_any hP p (-9) 9 W
  rw [ht13] at c13 hrr
  clear ht13
  clear hle hp
  go_enter Tryz.func70, Tryz.ntmps70
  go_wp2_with (first | (go_at_call 32; (with_reducible refine (hpre _).mono ?_); rintro e W0 ⟨rfl, hw⟩; rw [← hw] at M; clear hw; have z0 := Mine.at M.out 0 _ rfl; have z1 := Mine.at M.out 1 _ rfl; have z2 := Mine.at M.out 2 _ rfl; have z3 := Mine.at M.out 3 _ rfl; have z4 := Mine.at M.out 4 _ rfl; have zl := Mine.lt M.out; have x0 := Mine.at M.out.drop 0 _ rfl; have x1 := Mine.at M.out.drop 1 _ rfl; have x2 := Mine.at M.out.drop 2 _ rfl; have x3 := Mine.at M.out.drop 3 _ rfl; have x4 := Mine.at M.out.drop 4 _ rfl; have x5 := Mine.at M.out.drop 5 _ rfl; have x6 := Mine.at M.out.drop 6 _ rfl; have x7 := Mine.at M.out.drop 7 _ rfl; have x8 := Mine.at M.out.drop 8 _ rfl; have x9 := Mine.at M.out.drop 9 _ rfl; have x10 := Mine.at M.out.drop 10 _ rfl; have x11 := Mine.at M.out.drop 11 _ rfl; have x12 := Mine.at M.out.drop 12 _ rfl; have x13 := Mine.at M.out.drop 13 _ rfl; have xl := Mine.lt M.out.drop) | (go_at_call 101; (with_reducible refine (c0 _).mono ?_); rintro e w' ⟨rfl, hw⟩; have hw' := hw.symm; clear hw; subst hw') | (go_at_call 101; (with_reducible refine (c1 _).mono ?_); rintro e w' ⟨rfl, hw⟩; have hw' := hw.symm; clear hw; subst hw') | (go_at_call 101; (with_reducible refine (c2 _).mono ?_); rintro e w' ⟨rfl, hw⟩; have hw' := hw.symm; clear hw; subst hw') | (go_at_call 101; (with_reducible refine (c3 _).mono ?_); rintro e w' ⟨rfl, hw⟩; have hw' := hw.symm; clear hw; subst hw') | (go_at_call 101; (with_reducible refine (c4 _).mono ?_); rintro e w' ⟨rfl, hw⟩; have hw' := hw.symm; clear hw; subst hw') | (go_at_call 102; (with_reducible refine (among_fresh body [⟨#[55, 66, 73, 84]⟩, ⟨#[56, 66, 73, 84, 77, 73, 77, 69]⟩] #[.string ⟨#[55, 66, 73, 84]⟩, .string ⟨#[56, 66, 73, 84, 77, 73, 77, 69]⟩] HC5.out 2 (show List.length _ = _ from rfl) (by decide) t5 HT5.out _).mono ?_); rintro e W1 ⟨rfl, hb⟩; replace M := Aside.mk (M.out.next hb); clear hb z0 z1 z2 z3 z4 zl x0 x1 x2 x3 x4 x5 x6 x7 x8 x9 x10 x11 x12 x13 xl; have z0 := Mine.at M.out 0 _ rfl; have z1 := Mine.at M.out 1 _ rfl; have z2 := Mine.at M.out 2 _ rfl; have z3 := Mine.at M.out 3 _ rfl; have z4 := Mine.at M.out 4 _ rfl; have zl := Mine.lt M.out; have x0 := Mine.at M.out.drop 0 _ rfl; have x1 := Mine.at M.out.drop 1 _ rfl; have x2 := Mine.at M.out.drop 2 _ rfl; have x3 := Mine.at M.out.drop 3 _ rfl; have x4 := Mine.at M.out.drop 4 _ rfl; have x5 := Mine.at M.out.drop 5 _ rfl; have x6 := Mine.at M.out.drop 6 _ rfl; have x7 := Mine.at M.out.drop 7 _ rfl; have x8 := Mine.at M.out.drop 8 _ rfl; have x9 := Mine.at M.out.drop 9 _ rfl; have x10 := Mine.at M.out.drop 10 _ rfl; have x11 := Mine.at M.out.drop 11 _ rfl; have x12 := Mine.at M.out.drop 12 _ rfl; have x13 := Mine.at M.out.drop 13 _ rfl; have xl := Mine.lt M.out.drop) | (go_at_call 102; (with_reducible refine (among_fresh ret [⟨#[70, 85, 76, 76]⟩, ⟨#[72, 68, 82, 83]⟩] #[.string ⟨#[70, 85, 76, 76]⟩, .string ⟨#[72, 68, 82, 83]⟩] HC6.out 2 (show List.length _ = _ from rfl) (by decide) t6 HT6.out _).mono ?_); rintro e W1 ⟨rfl, hb⟩; replace M := Aside.mk (M.out.next hb); clear hb z0 z1 z2 z3 z4 zl x0 x1 x2 x3 x4 x5 x6 x7 x8 x9 x10 x11 x12 x13 xl; have z0 := Mine.at M.out 0 _ rfl; have z1 := Mine.at M.out 1 _ rfl; have z2 := Mine.at M.out 2 _ rfl; have z3 := Mine.at M.out 3 _ rfl; have z4 := Mine.at M.out 4 _ rfl; have zl := Mine.lt M.out; have x0 := Mine.at M.out.drop 0 _ rfl; have x1 := Mine.at M.out.drop 1 _ rfl; have x2 := Mine.at M.out.drop 2 _ rfl; have x3 := Mine.at M.out.drop 3 _ rfl; have x4 := Mine.at M.out.drop 4 _ rfl; have x5 := Mine.at M.out.drop 5 _ rfl; have x6 := Mine.at M.out.drop 6 _ rfl; have x7 := Mine.at M.out.drop 7 _ rfl; have x8 := Mine.at M.out.drop 8 _ rfl; have x9 := Mine.at M.out.drop 9 _ rfl; have x10 := Mine.at M.out.drop 10 _ rfl; have x11 := Mine.at M.out.drop 11 _ rfl; have x12 := Mine.at M.out.drop 12 _ rfl; have x13 := Mine.at M.out.drop 13 _ rfl; have xl := Mine.lt M.out.drop) | (go_at_call 102; (with_reducible refine (among_fresh mode [⟨#[82]⟩, ⟨#[78]⟩, ⟨#[82, 84]⟩, ⟨#[78, 84]⟩] #[.string ⟨#[82]⟩, .string ⟨#[78]⟩, .string ⟨#[82, 84]⟩, .string ⟨#[78, 84]⟩] HC7.out 4 (show List.length _ = _ from rfl) (by decide) t7 HT7.out _).mono ?_); rintro e W1 ⟨rfl, hb⟩; replace M := Aside.mk (M.out.next hb); clear hb z0 z1 z2 z3 z4 zl x0 x1 x2 x3 x4 x5 x6 x7 x8 x9 x10 x11 x12 x13 xl; have z0 := Mine.at M.out 0 _ rfl; have z1 := Mine.at M.out 1 _ rfl; have z2 := Mine.at M.out 2 _ rfl; have z3 := Mine.at M.out 3 _ rfl; have z4 := Mine.at M.out 4 _ rfl; have zl := Mine.lt M.out; have x0 := Mine.at M.out.drop 0 _ rfl; have x1 := Mine.at M.out.drop 1 _ rfl; have x2 := Mine.at M.out.drop 2 _ rfl; have x3 := Mine.at M.out.drop 3 _ rfl; have x4 := Mine.at M.out.drop 4 _ rfl; have x5 := Mine.at M.out.drop 5 _ rfl; have x6 := Mine.at M.out.drop 6 _ rfl; have x7 := Mine.at M.out.drop 7 _ rfl; have x8 := Mine.at M.out.drop 8 _ rfl; have x9 := Mine.at M.out.drop 9 _ rfl; have x10 := Mine.at M.out.drop 10 _ rfl; have x11 := Mine.at M.out.drop 11 _ rfl; have x12 := Mine.at M.out.drop 12 _ rfl; have x13 := Mine.at M.out.drop 13 _ rfl; have xl := Mine.lt M.out.drop) | (go_at_call 103; (with_reducible refine (c9 _).mono ?_); rintro e w' ⟨rfl, hw⟩; have hw' := hw.symm; clear hw; subst hw') | (go_at_call 103; (with_reducible refine (c10 _).mono ?_); rintro e w' ⟨rfl, hw⟩; have hw' := hw.symm; clear hw; subst hw') | (go_at_call 103; (with_reducible refine (c11 _).mono ?_); rintro e w' ⟨rfl, hw⟩; have hw' := hw.symm; clear hw; subst hw') | (go_at_call 103; (with_reducible refine (c12 _).mono ?_); rintro e w' ⟨rfl, hw⟩; have hw' := hw.symm; clear hw; subst hw') | (go_at_call 103; (with_reducible refine (c13 _).mono ?_); rintro e w' ⟨rfl, hw⟩; have hw' := hw.symm; clear hw; subst hw'))
  all_goals (go_ret; refine ⟨ret_int ?_, by repeat (first | exact M.out.low | refine Below.alloc ?_ (by simp) _)⟩; rw [← hrr]; clear hrr; (try simp only [Bool.not_eq_true', Bool.not_eq_false', Bool.not_eq_true, Bool.not_eq_false] at *); first | (simp [*]; done) | (simp [*]; omega) | simp_all)
end Go.Proofs.YtllhbcpbihhdnaaGreatDoor
