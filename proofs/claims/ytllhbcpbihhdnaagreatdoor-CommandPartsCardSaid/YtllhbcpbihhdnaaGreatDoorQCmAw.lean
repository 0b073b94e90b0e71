/-
  The laws of commands: awake, small.
-/
import Derived.Test.YtllhbcpbihhdnaaGreatDoorQ7
import Derived.Test.YtllhbcpbihhdnaaGreatDoorQ5
set_option linter.unusedVariables false
set_option linter.unusedSimpArgs false
namespace Go.Proofs.YtllhbcpbihhdnaaGreatDoor
open Go.RowKit Go.Shelf Pm
set_option maxRecDepth 100000
def Cm.Cmd.small (c : Cm.Cmd) : Bool := decide (c.verb.length + c.arg.length + c.lo.length + c.dm.length ≤ 2000) && (c.ml.small && c.rc.small)
set_option maxHeartbeats 2000000 in
theorem small_cmd (c : Cm.Cmd) (h0 : c.verb.length + c.arg.length + c.lo.length + c.dm.length ≤ 9000000000000000000) (hm : c.ml.body.size + c.ml.ret.size + c.ml.envid.size + c.ml.mode.size ≤ 9000000000000000000) (hr : c.rc.nt.size + c.rc.kd.size + c.rc.oc.size ≤ 9000000000000000000) (w : World) :
    Calls Tryz.prog 8 #[.agg c.cells] w fun e w' => e = .returned (.bool c.small) ∧ Below w.heap.size w w' := by
  have hsm := fun W => small_ml c.ml c.rc hm hr W
  obtain ⟨v, arg, lo, dm, ml, rc⟩ := c
  dsimp only at hsm h0
  unfold Cm.Cmd.small
  dsimp only
  obtain ⟨sm, hsm0⟩ : ∃ b, (ml.small && rc.small) = b := ⟨_, rfl⟩
  rw [hsm0] at hsm ⊢
  have B0 : Aside (Blk (w.alloc (.cells (⟨v, arg, lo, dm, ml, rc⟩ : Cm.Cmd).cells 31)) w.heap.size (⟨v, arg, lo, dm, ml, rc⟩ : Cm.Cmd).cells 31) := ⟨Blk.new _ _⟩
  have L0 : Aside (Below w.heap.size w (w.alloc (.cells (⟨v, arg, lo, dm, ml, rc⟩ : Cm.Cmd).cells 31))) := ⟨(Below.refl _ w).alloc (Nat.le_refl _) _⟩
  have z0 := Blk.cell B0.out 0 (.string (Cm.tx v)) rfl
  have z1 := Blk.cell B0.out 1 (.string (Cm.tx arg)) rfl
  have z2 := Blk.cell B0.out 2 (.string (Cm.tx lo)) rfl
  have z3 := Blk.cell B0.out 3 (.string (Cm.tx dm)) rfl
  have e0 := Cm.tx_size v
  have e1 := Cm.tx_size arg
  have e2 := Cm.tx_size lo
  have e3 := Cm.tx_size dm
  have h0s : (Cm.tx v).size + (Cm.tx arg).size + (Cm.tx lo).size + (Cm.tx dm).size ≤ 9000000000000000000 := by omega
  by_cases h1 : v.length + arg.length + lo.length + dm.length ≤ 2000
  · rw [decide_eq_true h1]
    have d1 : decide (((Cm.tx v).size : Int) + (Cm.tx arg).size + (Cm.tx lo).size + (Cm.tx dm).size ≤ 2000) = true := decide_eq_true (by omega)
    clear e0 e1 e2 e3 hm hr hsm0 h1 h0
    go_enter Tryz.func8, Tryz.ntmps8
    go_wp2_with (first | ((with_reducible refine at_dst (N := 23) rfl ?_); refine load_off_g (by kernel_rfl) 27 _ (by rfl) (w.heap.size) 4 (by rfl) (⟨v, arg, lo, dm, ml, rc⟩ : Cm.Cmd).cells 31 B0.out ml.cells (by rfl) _ Tryz.underlying27 rfl (by kernel_rfl) ?_) | ((with_reducible refine at_dst (N := 25) rfl ?_); refine load_off_g (by kernel_rfl) 29 _ (by rfl) (w.heap.size) 18 (by rfl) (⟨v, arg, lo, dm, ml, rc⟩ : Cm.Cmd).cells 31 B0.out rc.cells (by rfl) _ Tryz.underlying29 rfl (by kernel_rfl) ?_) | (go_at_call 17; (with_reducible refine (hsm _).mono ?_); rintro e w_ ⟨rfl, hb_⟩; have L1 := Aside.mk (L0.out.trans (hb_.mono L0.out.size)); clear hb_ z0 z1 z2 z3))
    go_ret
    exact ⟨by simp, L1.out⟩
  · rw [decide_eq_false h1]
    have d1 : decide (((Cm.tx v).size : Int) + (Cm.tx arg).size + (Cm.tx lo).size + (Cm.tx dm).size ≤ 2000) = false := decide_eq_false (by omega)
    clear e0 e1 e2 e3 hm hr hsm0 h1 h0
    go_enter Tryz.func8, Tryz.ntmps8
    go_wp2
    go_ret
    exact ⟨rfl, L0.out⟩
theorem aw_p1 (w : World) (hl : Lv w) : Calls Tryz.prog 9 #[.string ⟨#[109, 97, 105, 108, 32, 102, 114, 111, 109, 58, 60, 97, 64, 66, 62, 32, 115, 105, 122, 101, 61, 49, 32]⟩] w fun e w' => e = .returned (.tuple #[.agg (⟨Cm.vMAIL, [], [97], [98], { Ml.zero with hS := true, s := 1 }, Rc.zero⟩ : Cm.Cmd).cells, .int .i64 0]) ∧ Below w.heap.size w w' := by
  have h := commandParse_any ⟨#[109, 97, 105, 108, 32, 102, 114, 111, 109, 58, 60, 97, 64, 66, 62, 32, 115, 105, 122, 101, 61, 49, 32]⟩ (by decide) w hl
  rw [show Cm.parse (⟨#[109, 97, 105, 108, 32, 102, 114, 111, 109, 58, 60, 97, 64, 66, 62, 32, 115, 105, 122, 101, 61, 49, 32]⟩ : ByteArray).data.toList = ((⟨Cm.vMAIL, [], [97], [98], { Ml.zero with hS := true, s := 1 }, Rc.zero⟩ : Cm.Cmd), 0) by kernel_rfl] at h
  exact h
theorem aw_p5 (w : World) (hl : Lv w) : Calls Tryz.prog 9 #[.string ⟨#[88]⟩] w fun e w' => e = .returned (.tuple #[.agg Cm.Cmd.zero.cells, .int .i64 10]) ∧ Below w.heap.size w w' := by
  have h := commandParse_any ⟨#[88]⟩ (by decide) w hl
  rw [show Cm.parse (⟨#[88]⟩ : ByteArray).data.toList = (Cm.Cmd.zero, 10) by kernel_rfl] at h
  exact h
theorem aw_p7 (w : World) (hl : Lv w) : Calls Tryz.prog 9 #[.string ⟨#[68, 65, 84, 65, 32, 120]⟩] w fun e w' => e = .returned (.tuple #[.agg Cm.Cmd.zero.cells, .int .i64 2]) ∧ Below w.heap.size w w' := by
  have h := commandParse_any ⟨#[68, 65, 84, 65, 32, 120]⟩ (by decide) w hl
  rw [show Cm.parse (⟨#[68, 65, 84, 65, 32, 120]⟩ : ByteArray).data.toList = (Cm.Cmd.zero, 2) by kernel_rfl] at h
  exact h
theorem aw_p9 (w : World) (hl : Lv w) : Calls Tryz.prog 9 #[.string ⟨#[82, 67, 80, 84, 32, 84, 79, 58, 60, 80, 111, 115, 116, 109, 97, 115, 116, 101, 114, 62]⟩] w fun e w' => e = .returned (.tuple #[.agg (⟨Cm.vRCPT, [], Pt.post, [], Ml.zero, Rc.zero⟩ : Cm.Cmd).cells, .int .i64 0]) ∧ Below w.heap.size w w' := by
  have h := commandParse_any ⟨#[82, 67, 80, 84, 32, 84, 79, 58, 60, 80, 111, 115, 116, 109, 97, 115, 116, 101, 114, 62]⟩ (by decide) w hl
  rw [show Cm.parse (⟨#[82, 67, 80, 84, 32, 84, 79, 58, 60, 80, 111, 115, 116, 109, 97, 115, 116, 101, 114, 62]⟩ : ByteArray).data.toList = ((⟨Cm.vRCPT, [], Pt.post, [], Ml.zero, Rc.zero⟩ : Cm.Cmd), 0) by kernel_rfl] at h
  exact h
theorem aw_p11 (w : World) (hl : Lv w) : Calls Tryz.prog 9 #[.string ⟨#[110, 111, 111, 112, 32, 32, 120]⟩] w fun e w' => e = .returned (.tuple #[.agg Cm.Cmd.zero.cells, .int .i64 2]) ∧ Below w.heap.size w w' := by
  have h := commandParse_any ⟨#[110, 111, 111, 112, 32, 32, 120]⟩ (by decide) w hl
  rw [show Cm.parse (⟨#[110, 111, 111, 112, 32, 32, 120]⟩ : ByteArray).data.toList = (Cm.Cmd.zero, 2) by kernel_rfl] at h
  exact h
theorem aw_p13 (w : World) (hl : Lv w) : Calls Tryz.prog 9 #[.string ⟨#[86, 82, 70, 89, 32, 119, 104, 111, 32, 105, 115]⟩] w fun e w' => e = .returned (.tuple #[.agg (⟨Cm.vVRFY, [119, 104, 111, 32, 105, 115], [], [], Ml.zero, Rc.zero⟩ : Cm.Cmd).cells, .int .i64 0]) ∧ Below w.heap.size w w' := by
  have h := commandParse_any ⟨#[86, 82, 70, 89, 32, 119, 104, 111, 32, 105, 115]⟩ (by decide) w hl
  rw [show Cm.parse (⟨#[86, 82, 70, 89, 32, 119, 104, 111, 32, 105, 115]⟩ : ByteArray).data.toList = ((⟨Cm.vVRFY, [119, 104, 111, 32, 105, 115], [], [], Ml.zero, Rc.zero⟩ : Cm.Cmd), 0) by kernel_rfl] at h
  exact h
theorem aw_line : Cm.print (⟨Cm.vMAIL, [], [97], [98], { Ml.zero with hS := true, s := 1 }, Rc.zero⟩ : Cm.Cmd) = ([77, 65, 73, 76, 32, 70, 82, 79, 77, 58, 60, 97, 64, 98, 62, 32, 83, 73, 90, 69, 61, 49], 0) := by
  have h : Cm.line (⟨Cm.vMAIL, [], [97], [98], { Ml.zero with hS := true, s := 1 }, Rc.zero⟩ : Cm.Cmd) = ([77, 65, 73, 76, 32, 70, 82, 79, 77, 58, 60, 97, 64, 98, 62, 32, 83, 73, 90, 69, 61, 49], 0) := by
    unfold Cm.line
    rw [if_neg (not_not_intro (by decide)), if_pos rfl, if_neg (by rintro (q | q | q); exact q rfl; exact q rfl; exact absurd q.1 (by decide)), if_neg (not_not_intro (by kernel_rfl)), if_neg (not_not_intro (by kernel_rfl))]
    kernel_rfl
  unfold Cm.print
  rw [h, if_neg (by decide), if_neg (by decide)]
theorem aw_pr (w : World) (hl : Lv w) : Calls Tryz.prog 10 #[.agg (⟨Cm.vMAIL, [], [97], [98], { Ml.zero with hS := true, s := 1 }, Rc.zero⟩ : Cm.Cmd).cells] w fun e w' => e = .returned (.tuple #[.string ⟨#[77, 65, 73, 76, 32, 70, 82, 79, 77, 58, 60, 97, 64, 98, 62, 32, 83, 73, 90, 69, 61, 49]⟩, .int .i64 0]) ∧ Below w.heap.size w w' := by
  have h := commandPrint_any (⟨Cm.vMAIL, [], [97], [98], { Ml.zero with hS := true, s := 1 }, Rc.zero⟩ : Cm.Cmd) (Cm.fits_line (by rw [show Cm.line (⟨Cm.vMAIL, [], [97], [98], { Ml.zero with hS := true, s := 1 }, Rc.zero⟩ : Cm.Cmd) = ([77, 65, 73, 76, 32, 70, 82, 79, 77, 58, 60, 97, 64, 98, 62, 32, 83, 73, 90, 69, 61, 49], 0) from by
    have := Cm.print_ok aw_line
    exact Prod.ext this.2.1 this.1]) (by decide)) w hl
  rw [aw_line] at h
  exact h
theorem aw_verb (w : World) (hl : Lv w) : Calls Tryz.prog 11 #[.string ⟨#[113, 117, 105, 116, 32, 110, 111, 119]⟩] w fun e w' => e = .returned (.string ⟨#[81, 85, 73, 84]⟩) ∧ Below w.heap.size w w' := by
  have h := verb_any ⟨#[113, 117, 105, 116, 32, 110, 111, 119]⟩ (by decide) w hl
  rw [show Cm.tx (Cm.verb (⟨#[113, 117, 105, 116, 32, 110, 111, 119]⟩ : ByteArray).data.toList) = ⟨#[81, 85, 73, 84]⟩ by kernel_rfl] at h
  exact h
theorem Mine.only {w W : World} {L : List (Nat × Array Value × TypeId)} (h : Mine w L W) (o : Obj) : Mine w [] (W.alloc o) := ⟨h.low.alloc h.low.size _, fun x h => by cases h⟩
set_option maxHeartbeats 16000000 in
theorem awake_any (w : World) (hl : Lv w) : Calls Tryz.prog 7 #[] w fun e w' => e = .returned (.bool true) ∧ Below w.heap.size w w' := by
  have M : Aside (Mine w [] w) := ⟨Mine.start w⟩
  go_enter Tryz.func7, Tryz.ntmps7
  go_wp2_with (first | (go_at_call 9; (with_reducible refine (aw_p1 _ (hl.next M.out.low)).mono ?_); rintro e w_ ⟨rfl, hb_⟩; replace M := Aside.mk (M.out.next hb_); clear hb_; obtain ⟨b1, hb1⟩ : ∃ b, w_.heap.size = b := ⟨_, rfl⟩) | (go_at_call 9; (with_reducible refine (aw_p5 _ (hl.next M.out.low)).mono ?_); rintro e w_ ⟨rfl, hb_⟩; replace M := Aside.mk (M.out.next hb_); clear hb_; obtain ⟨b5, hb5⟩ : ∃ b, w_.heap.size = b := ⟨_, rfl⟩) | (go_at_call 9; (with_reducible refine (aw_p7 _ (hl.next M.out.low)).mono ?_); rintro e w_ ⟨rfl, hb_⟩; replace M := Aside.mk (M.out.next hb_); clear hb_; obtain ⟨b7, hb7⟩ : ∃ b, w_.heap.size = b := ⟨_, rfl⟩) | (go_at_call 9; (with_reducible refine (aw_p9 _ (hl.next M.out.low)).mono ?_); rintro e w_ ⟨rfl, hb_⟩; replace M := Aside.mk (M.out.next hb_); clear hb_; obtain ⟨b9, hb9⟩ : ∃ b, w_.heap.size = b := ⟨_, rfl⟩) | (go_at_call 9; (with_reducible refine (aw_p11 _ (hl.next M.out.low)).mono ?_); rintro e w_ ⟨rfl, hb_⟩; replace M := Aside.mk (M.out.next hb_); clear hb_; obtain ⟨b11, hb11⟩ : ∃ b, w_.heap.size = b := ⟨_, rfl⟩) | (go_at_call 9; (with_reducible refine (aw_p13 _ (hl.next M.out.low)).mono ?_); rintro e w_ ⟨rfl, hb_⟩; replace M := Aside.mk (M.out.next hb_); clear hb_; obtain ⟨b13, hb13⟩ : ∃ b, w_.heap.size = b := ⟨_, rfl⟩) | ((with_reducible refine at_store (p := 1) rfl ?_); refine store_new rfl 31 _ _ Cm.Cmd.zero.cells (⟨Cm.vMAIL, [], [97], [98], { Ml.zero with hS := true, s := 1 }, Rc.zero⟩ : Cm.Cmd).cells (by rfl) b1 hb1 (by rfl) (by rfl) (by kernel_rfl) (by rfl) (cmd_one _) ?_; replace M := Aside.mk (hb1 ▸ M.out.alloc (⟨Cm.vMAIL, [], [97], [98], { Ml.zero with hS := true, s := 1 }, Rc.zero⟩ : Cm.Cmd).cells 31); clear hb1) | ((with_reducible refine at_store (p := 5) rfl ?_); refine store_new rfl 31 _ _ Cm.Cmd.zero.cells Cm.Cmd.zero.cells (by rfl) b5 hb5 (by rfl) (by rfl) (by kernel_rfl) (by rfl) (cmd_one _) ?_; replace M := Aside.mk (hb5 ▸ M.out.alloc Cm.Cmd.zero.cells 31); clear hb5) | ((with_reducible refine at_store (p := 7) rfl ?_); refine store_new rfl 31 _ _ Cm.Cmd.zero.cells Cm.Cmd.zero.cells (by rfl) b7 hb7 (by rfl) (by rfl) (by kernel_rfl) (by rfl) (cmd_one _) ?_; replace M := Aside.mk (hb7 ▸ M.out.alloc Cm.Cmd.zero.cells 31); clear hb7) | ((with_reducible refine at_store (p := 9) rfl ?_); refine store_new rfl 31 _ _ Cm.Cmd.zero.cells (⟨Cm.vRCPT, [], Pt.post, [], Ml.zero, Rc.zero⟩ : Cm.Cmd).cells (by rfl) b9 hb9 (by rfl) (by rfl) (by kernel_rfl) (by rfl) (cmd_one _) ?_; replace M := Aside.mk (hb9 ▸ M.out.alloc (⟨Cm.vRCPT, [], Pt.post, [], Ml.zero, Rc.zero⟩ : Cm.Cmd).cells 31); clear hb9) | ((with_reducible refine at_store (p := 11) rfl ?_); refine store_new rfl 31 _ _ Cm.Cmd.zero.cells Cm.Cmd.zero.cells (by rfl) b11 hb11 (by rfl) (by rfl) (by kernel_rfl) (by rfl) (cmd_one _) ?_; replace M := Aside.mk (hb11 ▸ M.out.alloc Cm.Cmd.zero.cells 31); clear hb11) | ((with_reducible refine at_store (p := 13) rfl ?_); refine store_new rfl 31 _ _ Cm.Cmd.zero.cells (⟨Cm.vVRFY, [119, 104, 111, 32, 105, 115], [], [], Ml.zero, Rc.zero⟩ : Cm.Cmd).cells (by rfl) b13 hb13 (by rfl) (by rfl) (by kernel_rfl) (by rfl) (cmd_one _) ?_; replace M := Aside.mk (hb13 ▸ M.out.alloc (⟨Cm.vVRFY, [119, 104, 111, 32, 105, 115], [], [], Ml.zero, Rc.zero⟩ : Cm.Cmd).cells 31); clear hb13; have x0 := (M.out.own (b1, (⟨Cm.vMAIL, [], [97], [98], { Ml.zero with hS := true, s := 1 }, Rc.zero⟩ : Cm.Cmd).cells, 31) (by repeat (first | exact List.mem_cons_self .. | apply List.mem_cons_of_mem))).2.cell 0 (.string ⟨#[77, 65, 73, 76]⟩) rfl; have x2 := (M.out.own (b1, (⟨Cm.vMAIL, [], [97], [98], { Ml.zero with hS := true, s := 1 }, Rc.zero⟩ : Cm.Cmd).cells, 31) (by repeat (first | exact List.mem_cons_self .. | apply List.mem_cons_of_mem))).2.cell 2 (.string ⟨#[97]⟩) rfl; have x3 := (M.out.own (b1, (⟨Cm.vMAIL, [], [97], [98], { Ml.zero with hS := true, s := 1 }, Rc.zero⟩ : Cm.Cmd).cells, 31) (by repeat (first | exact List.mem_cons_self .. | apply List.mem_cons_of_mem))).2.cell 3 (.string ⟨#[98]⟩) rfl; have x9 := (M.out.own (b1, (⟨Cm.vMAIL, [], [97], [98], { Ml.zero with hS := true, s := 1 }, Rc.zero⟩ : Cm.Cmd).cells, 31) (by repeat (first | exact List.mem_cons_self .. | apply List.mem_cons_of_mem))).2.cell 9 (.int .i64 1) rfl; have y2 := (M.out.own (b9, (⟨Cm.vRCPT, [], Pt.post, [], Ml.zero, Rc.zero⟩ : Cm.Cmd).cells, 31) (by repeat (first | exact List.mem_cons_self .. | apply List.mem_cons_of_mem))).2.cell 2 (.string ⟨#[112, 111, 115, 116, 109, 97, 115, 116, 101, 114]⟩) rfl; have v1 := (M.out.own (b13, (⟨Cm.vVRFY, [119, 104, 111, 32, 105, 115], [], [], Ml.zero, Rc.zero⟩ : Cm.Cmd).cells, 31) (by repeat (first | exact List.mem_cons_self .. | apply List.mem_cons_of_mem))).2.cell 1 (.string ⟨#[119, 104, 111, 32, 105, 115]⟩) rfl) | ((with_reducible refine at_dst (N := 20) rfl ?_); refine load_blk rfl 31 _ (by rfl) b1 (by rfl) (⟨Cm.vMAIL, [], [97], [98], { Ml.zero with hS := true, s := 1 }, Rc.zero⟩ : Cm.Cmd).cells 31 _ (M.out.own (b1, (⟨Cm.vMAIL, [], [97], [98], { Ml.zero with hS := true, s := 1 }, Rc.zero⟩ : Cm.Cmd).cells, 31) (by repeat (first | exact List.mem_cons_self .. | apply List.mem_cons_of_mem))).2 Tryz.underlying31 rfl (by kernel_rfl) ?_) | (go_at_call 10; (with_reducible refine (aw_pr _ (hl.next M.out.low)).mono ?_); rintro e w_ ⟨rfl, hb_⟩; replace M := Aside.mk (M.out.next hb_); clear hb_) | ((with_reducible refine at_dst (N := 90) rfl ?_); refine load_blk_g b11 31 (by kernel_rfl) _ (by rfl) (by rfl) Cm.Cmd.zero.cells 31 _ (M.out.own (b11, Cm.Cmd.zero.cells, 31) (by repeat (first | exact List.mem_cons_self .. | apply List.mem_cons_of_mem))).2 Tryz.underlying31 rfl (by kernel_rfl) ?_) | ((with_reducible refine at_dst (N := 92) rfl ?_); refine step_value_g (by kernel_rfl) (.bool true) (Cm.Cmd.zero.eqb_self ▸ eql_cmd Cm.Cmd.zero Cm.Cmd.zero _ _ _ _ _ _ (by rfl) (by rfl) (by rfl)) ?_) | (go_at_call 16; (with_reducible refine (verbs_any _).mono ?_); rintro e w_ ⟨rfl, rfl⟩; replace M := Aside.mk (Mine.only M.out (.cells #[.string ⟨#[72, 69, 76, 79]⟩, .string ⟨#[69, 72, 76, 79]⟩, .string ⟨#[77, 65, 73, 76]⟩, .string ⟨#[82, 67, 80, 84]⟩, .string ⟨#[68, 65, 84, 65]⟩, .string ⟨#[82, 83, 69, 84]⟩, .string ⟨#[81, 85, 73, 84]⟩, .string ⟨#[78, 79, 79, 80]⟩, .string ⟨#[86, 82, 70, 89]⟩, .string ⟨#[72, 69, 76, 80]⟩] 9)); clear x0 x2 x3 x9 y2 v1) | (go_at_call 11; (with_reducible refine (aw_verb _ (hl.next M.out.low)).mono ?_); rintro e w_ ⟨rfl, hb_⟩; replace M := Aside.mk (M.out.next hb_); clear hb_))
  go_ret
  exact ⟨rfl, M.out.low⟩
end Go.Proofs.YtllhbcpbihhdnaaGreatDoor
