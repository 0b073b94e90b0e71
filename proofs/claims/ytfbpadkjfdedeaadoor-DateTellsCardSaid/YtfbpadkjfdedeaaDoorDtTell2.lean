/-
  The law DateTells at any arguments.
-/
import Derived.Test.YtfbpadkjfdedeaaDoorDtTells
namespace Go.Proofs.YtfbpadkjfdedeaaDoor
open Go.RowKit
set_option linter.unusedVariables false
set_option maxRecDepth 100000
theorem tells_long (y m d days t : Int) (s : ByteArray) (hs : s.size ≤ 140737488351232) (hl : 200 < s.size) (w : World) (ht : Tab w) :
    Calls Tryd.prog 3 #[.agg #[.int .i64 y, .int .i64 m, .int .i64 d], .int .i64 days, .int .i64 t, .string s] w fun e w' => e = .returned (.bool true) ∧ Below w.heap.size w w' := by
  have M := Mine.start w
  go_enter Tryd.func3, Tryd.ntmps3
  go_wp2_with (first
    | (go_at_call 8; refine (awake_any _ (Tab.next ht (Mine.low (by first | exact M | exact Mine.alloc M _ _ | exact Mine.alloc (Mine.alloc M _ _) _ _ | exact Mine.drewN M _)))).mono ?_; rintro e w1 ⟨rfl, hb⟩; have M2 := Mine.next (by first | exact M | exact Mine.alloc M _ _ | exact Mine.alloc (Mine.alloc M _ _) _ _ | exact Mine.drewN M _) hb; clear M; have M := M2; clear M2; clear hb))
  all_goals
    go_ret
    exact ⟨rfl, M.low⟩
theorem tells_any (y m d : Int) (_w0 : (Lit.int .i64 y).wf = true) (_w1 : (Lit.int .i64 m).wf = true) (_w2 : (Lit.int .i64 d).wf = true) (days : Int) (_w3 : (Lit.int .i64 days).wf = true) (t : Int) (_w4 : (Lit.int .i64 t).wf = true) (s : ByteArray) (_w5 : s.size ≤ 140737488351232) (w : World) (ht : Tab w) :
    Calls Tryd.prog 3 #[.agg #[.int .i64 y, .int .i64 m, .int .i64 d], .int .i64 days, .int .i64 t, .string s] w fun e w' => e = .returned (.bool true) ∧ Below w.heap.size w w' := by
  by_cases hs : s.size ≤ 200
  · have same : ∀ {f : FuncId} {args : Array Value} {v : Value} {W : World}, Calls Tryd.prog f args W (fun e w' => e = .returned v ∧ w' = W) → Calls Tryd.prog f args W fun e w' => e = .returned v ∧ Below W.heap.size W w' :=
      fun h => h.mono fun _ _ ⟨a, b⟩ => ⟨a, b ▸ Below.refl _ _⟩
    have hof : ∃ a b c o : Int, (∀ W, Calls Tryd.prog 11 #[.int .i64 days] W fun e w' => e = .returned (.tuple #[.agg #[.int .i64 a, .int .i64 b, .int .i64 c], .int .i64 o]) ∧ Below W.heap.size W w') ∧
        (∀ W, Calls Tryd.prog 12 #[.int .i64 days] W fun e w' => e = .returned (.tuple #[.agg #[.int .i64 a, .int .i64 b, .int .i64 c], .int .i64 o]) ∧ Below W.heap.size W w') := by
      rcases (show days < 0 ∨ 2932896 < days ∨ (0 ≤ days ∧ days ≤ 2932896) by omega) with h | h | ⟨h0, h1⟩
      · exact ⟨0, 0, 0, 1, fun W => of_no days W (.inl h), fun W => rf_of_neg days W h⟩
      · exact ⟨0, 0, 0, 1, fun W => of_no days W (.inr h), fun W => rf_of_far days W h (by simp [Lit.wf] at _w3; omega)⟩
      · exact ⟨_, _, _, 0, fun W => (of_yes days W h0 h1).mono fun _ _ ⟨a, _, b⟩ => ⟨a, b⟩, fun W => rf_of_yes days W h0 h1⟩
    obtain ⟨a, b, c, o, hO, hQ⟩ := hof
    exact tells_in y m d days t s w ht hs _ _ a b c o _ _ _ _ (fun W => days_any y m d W) (fun W => rf_days y m d W) hO hQ (fun W => parse_any s W) (fun W => rf_parse_any s _w5 W) (fun W hW => print_any t W hW) (fun W => rf_print t W)
      _ (fun W => same (leap_any y W)) (fun W => same (rf_leap y W)) _ (fun W => len_any y m W) (fun W => same (rf_len y m W))
  · exact tells_long y m d days t s _w5 (by omega) w ht
end Go.Proofs.YtfbpadkjfdedeaaDoor
