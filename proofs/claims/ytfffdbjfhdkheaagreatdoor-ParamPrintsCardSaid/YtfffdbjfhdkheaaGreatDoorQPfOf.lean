/-
  ParamPrints: the law's Of.
-/
import Derived.Test.YtfffdbjfhdkheaaGreatDoorQPmBk0
import Derived.Test.YtfffdbjfhdkheaaGreatDoorQ1
import Derived.Outline
set_option linter.unusedVariables false
set_option linter.unusedSimpArgs false
namespace Go.Proofs.YtfffdbjfhdkheaaGreatDoor
open Go.RowKit Go.Shelf Pm
set_option maxRecDepth 100000
/-- One result, that lies in a block. -/
theorem results_blk1 {P : Program} {fn : Func} {x : Tmp} {T : TypeId} (h : fn.results = #[.cell x T]) (tmps : Array Value) (w : World) (b : Nat) (hx : tmps.getD x undef = .pointer (some ⟨b, 0, none⟩)) (cs : Array Value) (t' : TypeId) (d : TypeDesc) (hb : Blk w b cs t') (hu : P.underlying T = some d) (hd : d.isRow = true) (hi : (P.info? T).map (·.size) = some cs.size) :
    (results fn tmps).run P w = .ok (.agg cs) w := by
  have hl := run_loadVar_mid (P := P) w b 0 T cs.toList d (blk_range hb) hu hd (by simpa using hi)
  have hx' : tmps[x]?.getD undef = .pointer (some ⟨b, 0, none⟩) := by simpa using hx
  simp [results, h, hx', asAddr, hl]
set_option maxHeartbeats 8000000 in
theorem of_ml (m : Ml) (w : World) : Calls Tryz.prog 11 #[.agg m.cells] w fun e w' => e = .returned (.agg m.cells) ∧ Below w.heap.size w w' := by
  obtain ⟨hS, hF, hU, hB, hP, s, f, u, b, p, body, ret, envid, mode⟩ := m
  show Calls _ _ #[.agg #[.bool hS, .bool hF, .bool hU, .bool hB, .bool hP, .int .i64 s, .int .i64 f, .int .i64 u, .int .i64 b, .int .i64 p, .string body, .string ret, .string envid, .string mode]] w fun e w' => e = .returned (.agg #[.bool hS, .bool hF, .bool hU, .bool hB, .bool hP, .int .i64 s, .int .i64 f, .int .i64 u, .int .i64 b, .int .i64 p, .string body, .string ret, .string envid, .string mode]) ∧ _
  obtain ⟨H, hH⟩ : ∃ H, w.heap.size = H := ⟨_, rfl⟩
  go_enter Tryz.func11, Tryz.ntmps11
  go_wp2_with (first | ((with_reducible refine at_store (p := 2) rfl ?_); refine store_new rfl 37 _ _ #[.bool false, .bool false, .bool false, .bool false, .bool false, .int .i64 0, .int .i64 0, .int .i64 0, .int .i64 0, .int .i64 0, .string ByteArray.empty, .string ByteArray.empty, .string ByteArray.empty, .string ByteArray.empty] #[.bool hS, .bool hF, .bool hU, .bool hB, .bool hP, .int .i64 s, .int .i64 f, .int .i64 u, .int .i64 b, .int .i64 p, .string body, .string ret, .string envid, .string mode] (by rfl) (w.heap.size + 1) (by simp) (by rfl) (by rfl) (by kernel_rfl) rfl (by kernel_rfl) ?_))
  refine bodyPost_ret (results_blk1 (by rfl) _ _ (H + 1) (by rfl) #[.bool hS, .bool hF, .bool hU, .bool hB, .bool hP, .int .i64 s, .int .i64 f, .int .i64 u, .int .i64 b, .int .i64 p, .string body, .string ret, .string envid, .string mode] 37 _ (by have := Blk.new (w := w.alloc (.cells #[.bool hS, .bool hF, .bool hU, .bool hB, .bool hP, .int .i64 s, .int .i64 f, .int .i64 u, .int .i64 b, .int .i64 p, .string body, .string ret, .string envid, .string mode] 25)) #[.bool hS, .bool hF, .bool hU, .bool hB, .bool hP, .int .i64 s, .int .i64 f, .int .i64 u, .int .i64 b, .int .i64 p, .string body, .string ret, .string envid, .string mode] 37; rw [World.size_alloc, hH] at this; exact this) Tryz.underlying37 rfl (by kernel_rfl)) rfl ⟨rfl, ?_⟩
  exact ((Below.refl _ w).alloc (Nat.le_refl _) _).alloc (by simp) _
end Go.Proofs.YtfffdbjfhdkheaaGreatDoor
