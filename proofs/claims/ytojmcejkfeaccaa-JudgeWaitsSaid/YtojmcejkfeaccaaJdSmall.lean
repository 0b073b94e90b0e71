/-
  Walks of the package judge: the small functions.
-/
import Derived.Test.YtojmcejkfeaccaaJdWait
import Derived.Test.YtojmcejkfeaccaaJdMsg
import Derived.Test.YtojmcejkfeaccaaMaps
import Derived.Test.YtojmcejkfeaccaaShelf
set_option linter.unusedVariables false
set_option linter.unusedSimpArgs false
namespace Go.Proofs.Ytojmcejkfeaccaa
open Go.RowKit
set_option maxRecDepth 100000

theorem expires_any (b mo li wa : Int) (m : JdMsg.Msg) (w : World) (h1 : 0 ≤ m.at_) (h2 : m.at_ ≤ 1099511627776) (h3 : 0 ≤ li) (h4 : li ≤ 1073741824) :
    Calls Try.prog 12 #[.agg #[.int .i64 b, .int .i64 mo, .int .i64 li, .int .i64 wa], .agg #[.int .i64 m.id, .int .i64 m.at_, .int .i64 m.rel, .string m.fl, .string m.fd, .bool m.hsz, .bool m.hhf, .bool m.hhu, .bool m.hby, .bool m.hpr, .int .i64 m.siz, .int .i64 m.hfo, .int .i64 m.hun, .int .i64 m.by_, .int .i64 m.pri, .string m.body, .string m.ret, .string m.env, .string m.mode, .slice m.rA m.rn m.rc, .slice m.lA m.ln m.lc]] w fun e w' => e = .returned (.int .i64 (m.at_ + li)) ∧ Below w.heap.size w w' := by
  go_enter Try.func12, Try.ntmps12
  go_wp2
  go_ret
  exact ⟨rfl, ((Below.refl _ _).alloc (Nat.le_refl _) _).alloc (by simp) _⟩

theorem deadline_any (m : JdMsg.Msg) (w : World) (h1 : 0 ≤ m.at_) (h2 : m.at_ ≤ 1099511627776) (h3 : -999999999 ≤ m.by_) (h4 : m.by_ ≤ 999999999) :
    Calls Try.prog 10 #[.agg #[.int .i64 m.id, .int .i64 m.at_, .int .i64 m.rel, .string m.fl, .string m.fd, .bool m.hsz, .bool m.hhf, .bool m.hhu, .bool m.hby, .bool m.hpr, .int .i64 m.siz, .int .i64 m.hfo, .int .i64 m.hun, .int .i64 m.by_, .int .i64 m.pri, .string m.body, .string m.ret, .string m.env, .string m.mode, .slice m.rA m.rn m.rc, .slice m.lA m.ln m.lc]] w fun e w' => e = .returned (.tuple #[.int .i64 (if m.hby = true then m.at_ + m.by_ else 0), .bool m.hby]) ∧ Below w.heap.size w w' := by
  by_cases hb : m.hby = true
  · rw [if_pos hb]
    go_enter Try.func10, Try.ntmps10
    go_wp2
    go_ret2
    exact ⟨by simp [hb], (Below.refl _ _).alloc (Nat.le_refl _) _⟩
  · rw [if_neg hb]
    go_enter Try.func10, Try.ntmps10
    go_wp2
    go_ret2
    exact ⟨by simp [hb], (Below.refl _ _).alloc (Nat.le_refl _) _⟩
theorem returns_any (m : JdMsg.Msg) (w : World) :
    Calls Try.prog 18 #[.agg #[.bool m.hsz, .bool m.hhf, .bool m.hhu, .bool m.hby, .bool m.hpr, .int .i64 m.siz, .int .i64 m.hfo, .int .i64 m.hun, .int .i64 m.by_, .int .i64 m.pri, .string m.body, .string m.ret, .string m.env, .string m.mode]] w fun e w' => e = .returned (.bool (Lib.hasPrefix m.mode.data.toList [82])) ∧ Below w.heap.size w w' := by
  go_enter Try.func18, Try.ntmps18
  go_wp2_with (go_at_call 22; refine (Try.strings_HasPrefix _ _ _).mono ?_; rintro e w1 ⟨rfl, rfl⟩)
  go_ret
  exact ⟨rfl, (Below.refl _ _).alloc (Nat.le_refl _) _⟩
theorem null_any (l d : ByteArray) (w : World) :
    Calls Try.prog 21 #[.agg #[.string l, .string d]] w fun e w' => e = .returned (.bool (l.toList.isEmpty && d.toList.isEmpty)) ∧ Below w.heap.size w w' := by
  go_enter Try.func21, Try.ntmps21
  go_wp2
  all_goals
    go_ret
    exact ⟨ret_bool (by simp [*]), (Below.refl _ _).alloc (Nat.le_refl _) _⟩

/-- What the kinds are told by. -/
def tellEnts : Array MapEntry := #[⟨.string ⟨#[100, 101, 108, 97, 121, 101, 100]⟩, .agg #[.string ⟨#[68]⟩, .int .i64 1, .bool true], 0⟩, ⟨.string ⟨#[102, 97, 105, 108, 101, 100]⟩, .agg #[.string ⟨#[70]⟩, .int .i64 2, .bool true], 1⟩, ⟨.string ⟨#[100, 101, 108, 105, 118, 101, 114, 101, 100]⟩, .agg #[.string ⟨#[83]⟩, .int .i64 4, .bool false], 2⟩, ⟨.string ⟨#[114, 101, 108, 97, 121, 101, 100]⟩, .agg #[.string ⟨#[83]⟩, .int .i64 4, .bool false], 3⟩]
theorem tell_any (w : World) :
    Calls Try.prog 19 #[] w fun e w' => e = .returned (.map (some w.heap.size)) ∧ w' = w.alloc (.map tellEnts 4) := by
  have hmm := @run_makeMap Try.prog
  have u := fun es c k v hf => mapUpdate_new (P := Try.prog) Try.underlying63 Try.underlying9 w es c k v hf
  have u0 : (Instr.mapUpdate 63 (.map (some w.heap.size)) (.string ⟨#[100, 101, 108, 97, 121, 101, 100]⟩) (.agg #[.string ⟨#[68]⟩, .int .i64 1, .bool true])).run Try.prog (w.alloc (.map #[] 0)) = .ok () (w.alloc (.map #[⟨.string ⟨#[100, 101, 108, 97, 121, 101, 100]⟩, .agg #[.string ⟨#[68]⟩, .int .i64 1, .bool true], 0⟩] 1)) := u #[] 0 ⟨#[100, 101, 108, 97, 121, 101, 100]⟩ _ (by rfl)
  have u1 : (Instr.mapUpdate 63 (.map (some w.heap.size)) (.string ⟨#[102, 97, 105, 108, 101, 100]⟩) (.agg #[.string ⟨#[70]⟩, .int .i64 2, .bool true])).run Try.prog (w.alloc (.map #[⟨.string ⟨#[100, 101, 108, 97, 121, 101, 100]⟩, .agg #[.string ⟨#[68]⟩, .int .i64 1, .bool true], 0⟩] 1)) = .ok () (w.alloc (.map #[⟨.string ⟨#[100, 101, 108, 97, 121, 101, 100]⟩, .agg #[.string ⟨#[68]⟩, .int .i64 1, .bool true], 0⟩, ⟨.string ⟨#[102, 97, 105, 108, 101, 100]⟩, .agg #[.string ⟨#[70]⟩, .int .i64 2, .bool true], 1⟩] 2)) := u #[⟨.string ⟨#[100, 101, 108, 97, 121, 101, 100]⟩, .agg #[.string ⟨#[68]⟩, .int .i64 1, .bool true], 0⟩] 1 ⟨#[102, 97, 105, 108, 101, 100]⟩ _ (by rfl)
  have u2 : (Instr.mapUpdate 63 (.map (some w.heap.size)) (.string ⟨#[100, 101, 108, 105, 118, 101, 114, 101, 100]⟩) (.agg #[.string ⟨#[83]⟩, .int .i64 4, .bool false])).run Try.prog (w.alloc (.map #[⟨.string ⟨#[100, 101, 108, 97, 121, 101, 100]⟩, .agg #[.string ⟨#[68]⟩, .int .i64 1, .bool true], 0⟩, ⟨.string ⟨#[102, 97, 105, 108, 101, 100]⟩, .agg #[.string ⟨#[70]⟩, .int .i64 2, .bool true], 1⟩] 2)) = .ok () (w.alloc (.map #[⟨.string ⟨#[100, 101, 108, 97, 121, 101, 100]⟩, .agg #[.string ⟨#[68]⟩, .int .i64 1, .bool true], 0⟩, ⟨.string ⟨#[102, 97, 105, 108, 101, 100]⟩, .agg #[.string ⟨#[70]⟩, .int .i64 2, .bool true], 1⟩, ⟨.string ⟨#[100, 101, 108, 105, 118, 101, 114, 101, 100]⟩, .agg #[.string ⟨#[83]⟩, .int .i64 4, .bool false], 2⟩] 3)) := u #[⟨.string ⟨#[100, 101, 108, 97, 121, 101, 100]⟩, .agg #[.string ⟨#[68]⟩, .int .i64 1, .bool true], 0⟩, ⟨.string ⟨#[102, 97, 105, 108, 101, 100]⟩, .agg #[.string ⟨#[70]⟩, .int .i64 2, .bool true], 1⟩] 2 ⟨#[100, 101, 108, 105, 118, 101, 114, 101, 100]⟩ _ (by rfl)
  have u3 : (Instr.mapUpdate 63 (.map (some w.heap.size)) (.string ⟨#[114, 101, 108, 97, 121, 101, 100]⟩) (.agg #[.string ⟨#[83]⟩, .int .i64 4, .bool false])).run Try.prog (w.alloc (.map #[⟨.string ⟨#[100, 101, 108, 97, 121, 101, 100]⟩, .agg #[.string ⟨#[68]⟩, .int .i64 1, .bool true], 0⟩, ⟨.string ⟨#[102, 97, 105, 108, 101, 100]⟩, .agg #[.string ⟨#[70]⟩, .int .i64 2, .bool true], 1⟩, ⟨.string ⟨#[100, 101, 108, 105, 118, 101, 114, 101, 100]⟩, .agg #[.string ⟨#[83]⟩, .int .i64 4, .bool false], 2⟩] 3)) = .ok () (w.alloc (.map #[⟨.string ⟨#[100, 101, 108, 97, 121, 101, 100]⟩, .agg #[.string ⟨#[68]⟩, .int .i64 1, .bool true], 0⟩, ⟨.string ⟨#[102, 97, 105, 108, 101, 100]⟩, .agg #[.string ⟨#[70]⟩, .int .i64 2, .bool true], 1⟩, ⟨.string ⟨#[100, 101, 108, 105, 118, 101, 114, 101, 100]⟩, .agg #[.string ⟨#[83]⟩, .int .i64 4, .bool false], 2⟩, ⟨.string ⟨#[114, 101, 108, 97, 121, 101, 100]⟩, .agg #[.string ⟨#[83]⟩, .int .i64 4, .bool false], 3⟩] 4)) := u #[⟨.string ⟨#[100, 101, 108, 97, 121, 101, 100]⟩, .agg #[.string ⟨#[68]⟩, .int .i64 1, .bool true], 0⟩, ⟨.string ⟨#[102, 97, 105, 108, 101, 100]⟩, .agg #[.string ⟨#[70]⟩, .int .i64 2, .bool true], 1⟩, ⟨.string ⟨#[100, 101, 108, 105, 118, 101, 114, 101, 100]⟩, .agg #[.string ⟨#[83]⟩, .int .i64 4, .bool false], 2⟩] 3 ⟨#[114, 101, 108, 97, 121, 101, 100]⟩ _ (by rfl)
  clear u
  go_enter Try.func19, Try.ntmps19
  go_wp2
  go_ret
  exact ⟨rfl, rfl⟩
end Go.Proofs.Ytojmcejkfeaccaa
