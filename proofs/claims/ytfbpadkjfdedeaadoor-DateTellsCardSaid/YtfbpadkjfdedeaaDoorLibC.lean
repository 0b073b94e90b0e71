/-
  Contracts of Go's library in the form that the walks here want: what is told, and that all that lay there is as it was.
-/
import Derived.Test.YtfbpadkjfdedeaaDoorMem
import Derived.Test.YtfbpadkjfdedeaaDoorShelf
import Derived.Test.YtfbpadkjfdedeaaDoorRows
import Derived.WalkSmall
import Derived.Lib.LaidTab
import Derived.Sort.Grow
import Derived.Stop.LaidErr
set_option linter.unusedVariables false
set_option linter.unusedSimpArgs false
namespace Go.Proofs.YtfbpadkjfdedeaaDoor
open Go.RowKit
/-- The table of powers of ten that strconv reads. -/
def Tab (w : World) : Prop := Lib.TabIs Tryd.prog w "internal/strconv.uint64pow10" .u64 Lib.pow10Tab
theorem gPow : Tryd.prog.globalNamed "internal/strconv.uint64pow10" = some 0 := by kernel_rfl
theorem Tab.lt {w : World} (h : Tab w) : 0 < w.heap.size := by
  have h1 : w.var? Tryd.prog "internal/strconv.uint64pow10" = some _ := h
  unfold World.var? at h1
  rw [gPow] at h1
  simp only [Option.bind_some] at h1
  cases h' : w.heap[0]? with
  | none => rw [h'] at h1; simp at h1
  | some o => exact lt_of_block h'
theorem Tab.below {w w1 : World} {B : Nat} (h : Tab w) (hb : Below B w w1) (hB : w.heap.size ≤ B) : Tab w1 := var?_below hb gPow (Nat.lt_of_lt_of_le h.lt hB) h
theorem Tab.next {w w1 : World} (h : Tab w) (hb : Below w.heap.size w w1) : Tab w1 := h.below hb (Nat.le_refl _)
theorem below_grow (w : World) (k : Nat) (os : Array Obj) : Below w.heap.size w (Go.Sort.grow (w.drewN k) os) :=
  ⟨rfl, rfl, rfl, by simp [Go.Sort.grow], fun i hi => by
    show (w.heap ++ os)[i]? = _
    rw [Array.getElem?_append, if_pos hi]⟩
theorem itoa_any (n : Int) (w : World) (h0 : -9223372036854775808 ≤ n) (h1 : n ≤ 9223372036854775807) (ht : Tab w) :
    Calls Tryd.prog 34 #[.int .i64 n] w fun e w' => e = .returned (.string ⟨(Lib.itoa n).toArray⟩) ∧ Below w.heap.size w w' :=
  (Tryd.strconv_Itoa n h0 h1 w ht).mono fun _ _ ⟨he, k, os, hw⟩ => ⟨he, hw ▸ below_grow w k os⟩
theorem repeatL_one (x : UInt8) (c : Nat) : Lib.repeatL [x] c = List.replicate c x := by
  induction c with
  | zero => rfl
  | succ c ih => rw [Lib.repeatL, ih]; rfl
theorem tab_of_laid {lst : List (String × DataW Unit)} {x y : String × DataW Unit} {W : World} (h : lst = [x, y, ("internal/strconv.uint64pow10", Lib.tabData .u64 Lib.pow10Tab)]) (hL : laidMet Tryd.prog lst W) : Tab W := by
  subst h
  exact Lib.tabIs_of_head gPow (by kernel_rfl) Tryd.underlying88 Tryd.underlying75 (by kernel_rfl) (by kernel_rfl) hL.tail.tail
/-- strings.Repeat of one byte. -/
theorem repeat_any (x : UInt8) (c : Int) (w : World) (h0 : 0 ≤ c) (h1 : c ≤ 140737488355328) :
    Calls Tryd.prog 35 #[.string ⟨#[x]⟩, .int .i64 c] w fun e w' => e = .returned (.string ⟨(List.replicate c.toNat x).toArray⟩) ∧ Below w.heap.size w w' := by
  obtain ⟨n, rfl⟩ := Int.eq_ofNat_of_zero_le h0
  have := Tryd.strings_Repeat ⟨#[x]⟩ n w (by omega) (by show 1 * n ≤ _; omega)
  rw [show (ByteArray.mk #[x]).data.toList = [x] from rfl, repeatL_one] at this
  exact this
end Go.Proofs.YtfbpadkjfdedeaaDoor
