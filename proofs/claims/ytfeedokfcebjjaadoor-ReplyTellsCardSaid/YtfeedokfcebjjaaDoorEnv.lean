/-
  What lies in memory of the library's own: shapes, a table, two errors; all kept by a call that makes memory.
-/
import Derived.Test.YtfeedokfcebjjaaDoorMem2
import Derived.Test.YtfeedokfcebjjaaDoorShelf
import Derived.Test.YtfeedokfcebjjaaDoorRows
import Derived.WalkSmall
import Derived.Lib.LaidTab
import Derived.Sort.Grow
import Derived.Stop.LaidErr
import Derived.ChangeAgain
set_option linter.unusedVariables false
set_option linter.unusedSimpArgs false
namespace Go.Proofs.YtfeedokfcebjjaaDoor
open Go.RowKit Go.ChangeShapes
theorem gPow : Tryd.prog.globalNamed "internal/strconv.uint64pow10" = some 4 := by kernel_rfl
theorem gSyn : Tryd.prog.globalNamed "strconv.ErrSyntax" = some 0 := by kernel_rfl
theorem gRng : Tryd.prog.globalNamed "strconv.ErrRange" = some 1 := by kernel_rfl
structure Env (w : World) : Prop where
  shaped : w.ShapedOpen Tryd.prog
  tab : Lib.TabIs Tryd.prog w "internal/strconv.uint64pow10" .u64 Lib.pow10Tab
  syn : ∃ tp p, w.var? Tryd.prog "strconv.ErrSyntax" = some #[.iface tp p]
  rng : ∃ tp p, w.var? Tryd.prog "strconv.ErrRange" = some #[.iface tp p]
theorem var_lt {w : World} {n : String} {g : Nat} {cs : Array Value} (hg : Tryd.prog.globalNamed n = some g) (h : w.var? Tryd.prog n = some cs) : g < w.heap.size := by
  unfold World.var? at h
  rw [hg] at h
  simp only [Option.bind_some] at h
  cases h' : w.heap[g]? with
  | none => rw [h'] at h; simp at h
  | some o => exact lt_of_block h'
theorem var_next {w w1 : World} {n : String} {g : Nat} {cs : Array Value} (hg : Tryd.prog.globalNamed n = some g) (h : w.var? Tryd.prog n = some cs) (hb : Below w.heap.size w w1) : w1.var? Tryd.prog n = some cs :=
  var?_below hb hg (var_lt hg h) h
theorem Env.next {w w1 : World} (h : Env w) (hb : Below w.heap.size w w1) : Env w1 :=
  ⟨h.shaped.keptBut (hb.frame fun _ => False) (fun _ hp => hp.elim), var_next gPow h.tab hb, by obtain ⟨tp, p, hv⟩ := h.syn; exact ⟨tp, p, var_next gSyn hv hb⟩, by obtain ⟨tp, p, hv⟩ := h.rng; exact ⟨tp, p, var_next gRng hv hb⟩⟩
theorem below_grow (w : World) (k : Nat) (os : Array Obj) : Below w.heap.size w (Go.Sort.grow (w.drewN k) os) :=
  ⟨rfl, rfl, rfl, by simp [Go.Sort.grow], fun i hi => by
    show (w.heap ++ os)[i]? = _
    rw [Array.getElem?_append, if_pos hi]⟩
theorem itoa_any (n : Int) (w : World) (h0 : -9223372036854775808 ≤ n) (h1 : n ≤ 9223372036854775807) (he : Env w) :
    Calls Tryd.prog 31 #[.int .i64 n] w fun e w' => e = .returned (.string ⟨(Lib.itoa n).toArray⟩) ∧ Below w.heap.size w w' :=
  (Tryd.strconv_Itoa n h0 h1 w he.tab).mono fun _ _ ⟨he, k, os, hw⟩ => ⟨he, hw ▸ below_grow w k os⟩
theorem below_drewN (w : World) (n : Nat) : Below w.heap.size w (w.drewN n) := pw_below_drewN (Below.refl _ _) n
theorem cut_any (s sep : ByteArray) (w : World) (he : Env w) (hs : s.size < 4294967281) :
    Calls Tryd.prog 54 #[.string s, .string sep] w fun e w' => e = .returned (.tuple #[.string ⟨(Lib.cut s.data.toList sep.data.toList).1.toArray⟩, .string ⟨(Lib.cut s.data.toList sep.data.toList).2.1.toArray⟩, .bool (Lib.cut s.data.toList sep.data.toList).2.2]) ∧ Below w.heap.size w w' :=
  (Tryd.strings_Cut_shaped s sep w he.shaped hs).mono fun _ _ ⟨h, n, hw⟩ => ⟨h, hw ▸ below_drewN w n⟩
theorem atoi_ok (s : ByteArray) (hs : s.size ≤ 281474976710656) (v : Int) (h : Lib.atoiAll s.data.toList = .ok v) (w : World) :
    Calls Tryd.prog 25 #[.string s] w fun e w' => e = .returned (.tuple #[.int .i64 v, .nilIface]) ∧ Below w.heap.size w w' :=
  (Tryd.strconv_Atoi_ok s (by omega) v h w).mono fun _ _ ⟨h, hw⟩ => ⟨h, by
    rcases hw with rfl | ⟨t, rfl⟩
    · exact Below.refl _ _
    · exact ⟨rfl, rfl, rfl, by rw [Lib.bytesWorld_size]; omega, fun k hk => Lib.bytesWorld_at_old w _ t k hk⟩⟩
/-- A text that is no number: some number, and an error that isn't nil. -/
theorem atoi_bad (s : ByteArray) (hs : s.size ≤ 281474976710656) (h : ∀ v, Lib.atoiAll s.data.toList ≠ .ok v) (w : World) (he : Env w) :
    Calls Tryd.prog 25 #[.string s] w fun e w' => ∃ (n : Int) (N : Nat), e = .returned (.tuple #[.int .i64 n, .iface 90 (.pointer (some ⟨N, 0, none⟩))]) ∧ Below w.heap.size w w' := by
  cases hx : Lib.atoiAll s.data.toList with
  | ok v => exact absurd hx (h v)
  | range =>
    obtain ⟨tp, p, hv⟩ := he.rng
    exact (Tryd.strconv_Atoi_range_var s hs hx tp p w hv).mono fun _ _ ⟨N, h, _, _, hb⟩ => ⟨_, N, h, hb⟩
  | _ =>
    obtain ⟨tp, p, hv⟩ := he.syn
    exact (Any.strconv_Atoi_syntax_var Tryd.laysC172 s hs hx tp p w hv).mono fun _ _ ⟨N, h, _, _, hb⟩ => ⟨0, N, h, hb⟩
end Go.Proofs.YtfeedokfcebjjaaDoor
