/-
  What the package judge computes, in plain words.
-/
import Derived.WalkKit
import Derived.Test.YtojmcejkfeaccaaShelf
namespace JdLaw
open Go
/-- Is a report made? -/
def jMade (fl fd nf : ByteArray) (td x : Int) (c : UInt8) (s f : Bool) : Bool :=
  !(fl.toList.isEmpty && fd.toList.isEmpty) && (!(bits .and .i64 td x != 0) && (decide (0 ≤ Lib.indexByte nf.data.toList c) || ((nf.toList.isEmpty && s) || (f && !(nf.toList == [78])))))
def jCome (hby : Bool) (at_ by_ now : Int) : Bool := hby && decide (at_ + by_ ≤ now)
def jOf (m : Bool) (st : ByteArray) (td x : Int) (k : ByteArray) : ByteArray × Int × Option ByteArray := (st, (if m = true then bits .or .i64 td x else td), (if m = true then some k else none))
def jPass (li wa at_ by_ td now : Int) (hby : Bool) (fl fd mode nf st : ByteArray) : ByteArray × Int × Option ByteArray :=
  if (decide (at_ + li ≤ now) || (jCome hby at_ by_ now && Lib.hasPrefix mode.data.toList [82])) = true then jOf (jMade fl fd nf td 2 70 true (jCome hby at_ by_ now && Lib.hasPrefix mode.data.toList [82])) ⟨#[70]⟩ td 2 ⟨#[102, 97, 105, 108, 101, 100]⟩
  else if (jCome hby at_ by_ now || decide (wa ≤ now - at_)) = true then jOf (jMade fl fd nf td 1 68 true (jCome hby at_ by_ now)) st td 1 ⟨#[100, 101, 108, 97, 121, 101, 100]⟩
  else (st, td, none)
end JdLaw
