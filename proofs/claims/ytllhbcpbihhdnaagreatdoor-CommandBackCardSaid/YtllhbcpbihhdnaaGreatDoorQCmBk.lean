/-
  CommandBack: its walk.
-/
import Derived.Test.YtllhbcpbihhdnaaGreatDoorQCmAw
set_option linter.unusedVariables false
set_option linter.unusedSimpArgs false
namespace Go.Proofs.YtllhbcpbihhdnaaGreatDoor
open Go.RowKit Go.Shelf Pm
set_option maxRecDepth 100000
theorem parse_nil : Cm.parse [] = (Cm.Cmd.zero, 10) := by kernel_rfl
theorem Mine.new {w W : World} {L : List (Nat × Array Value × TypeId)} (h : Mine w L W) (cs : Array Value) (t : TypeId) (b : Nat) (hb : W.heap.size = b) : Mine w ((b, cs, t) :: L) (W.alloc (.cells cs t)) := hb ▸ h.alloc cs t
theorem neq_self (c : Cm.Cmd) (w : World) (a : Act) (o : Oper) (x y : Operand) (t' : TypeId) (ho : o.op = .binOp .neq 31 x y t') (hx : a.eval x = .agg c.cells) (hy : a.eval y = .agg c.cells) : (execOp a.eval o).run Tryz.prog w = .ok (.value (.bool false)) w := by
  have := neq_cmd c c w a o x y t' ho hx hy
  rwa [Cm.Cmd.eqb_self] at this
theorem eql_self (c : Cm.Cmd) (w : World) (a : Act) (o : Oper) (x y : Operand) (t' : TypeId) (ho : o.op = .binOp .eql 31 x y t') (hx : a.eval x = .agg c.cells) (hy : a.eval y = .agg c.cells) : (execOp a.eval o).run Tryz.prog w = .ok (.value (.bool true)) w := by
  have := eql_cmd c c w a o x y t' ho hx hy
  rwa [Cm.Cmd.eqb_self] at this
set_option maxHeartbeats 16000000 in
theorem back_err_bad (c : Cm.Cmd) (hf : Cm.Fits c) (hsm : ∀ W, Calls Tryz.prog 8 #[.agg c.cells] W fun e w' => e = .returned (.bool true) ∧ Below W.heap.size W w') (s : ByteArray) (hs : s.size ≤ 3000) (bl : Nat) (hbl : bl < 256) (x : Cm.Cmd) (ex : Int) (hx : Cm.parse s.data.toList = (x, ex)) (ox : ex ≠ 0) (ec : Int) (pc : Cm.print c = ([], ec)) (oc : ec ≠ 0) (w : World) (hl : Lv w) : Calls Tryz.prog 3 #[.string s, .agg c.cells, .int .u8 bl] w fun e w' => e = .returned (.bool true) ∧ Below w.heap.size w w' := by
  have hps := fun W (hW : Lv W) => commandParse_any s (by omega) W hW
  rw [hx] at hps
  dsimp only at hps
  have be : (ex == 0) = false := by simpa using ox
  have hpc := fun W (hW : Lv W) => commandPrint_any c hf W hW
  rw [pc] at hpc
  dsimp only at hpc
  have bc : (ec != 0) = true := by simpa using oc
  have hs2 : decide ((3000 : Int) < (s.size : Int)) = false := decide_eq_false (by omega)
  clear hf hx pc ox oc
  obtain ⟨H, hH⟩ : ∃ H, w.heap.size = H := ⟨_, rfl⟩
  have M : Aside (Mine w [(H, c.cells, 31)] (w.alloc (.cells c.cells 31))) := ⟨Mine.new (Mine.start w) c.cells 31 H hH⟩
  go_enter Tryz.func3, Tryz.ntmps3
  rw [hH]
  go_wp2_with (first | (go_at_call 7; (with_reducible refine (awake_any _ (hl.next M.out.low)).mono ?_); rintro e w_ ⟨rfl, hb_⟩; replace M := Aside.mk (M.out.next hb_); clear hb_) | (go_at_call 8; (with_reducible refine (hsm _).mono ?_); rintro e w_ ⟨rfl, hb_⟩; replace M := Aside.mk (M.out.next hb_); clear hb_) | ((with_reducible refine at_dst (N := 24) rfl ?_); refine load_blk_g H 31 (by kernel_rfl) _ (by rfl) (by rfl) c.cells 31 _ (M.out.own (H, c.cells, 31) (by repeat (first | exact List.mem_cons_self .. | apply List.mem_cons_of_mem))).2 Tryz.underlying31 rfl (by kernel_rfl) ?_) | (go_at_call 9; (with_reducible refine (hps _ (hl.next M.out.low)).mono ?_); rintro e w_ ⟨rfl, hb_⟩; replace M := Aside.mk (M.out.next hb_); clear hb_; obtain ⟨bx, hbx⟩ : ∃ b, w_.heap.size = b := ⟨_, rfl⟩) | ((with_reducible refine at_store (p := 7) rfl ?_); refine store_new rfl 31 _ _ Cm.Cmd.zero.cells x.cells (by rfl) bx hbx (by rfl) (by rfl) (by kernel_rfl) (by rfl) (cmd_one _) ?_; replace M := Aside.mk (Mine.new M.out x.cells 31 bx hbx); clear hbx) | ((with_reducible refine at_dst (N := 65) rfl ?_); refine load_blk rfl 31 _ (by rfl) H (by rfl) c.cells 31 _ (M.out.own (H, c.cells, 31) (by repeat (first | exact List.mem_cons_self .. | apply List.mem_cons_of_mem))).2 Tryz.underlying31 rfl (by kernel_rfl) ?_) | (go_at_call 10; (with_reducible refine (hpc _ (hl.next M.out.low)).mono ?_); rintro e w9 ⟨rfl, hb_⟩; replace M := Aside.mk (M.out.next hb_); clear hb_))
  go_ret
  exact ⟨by show Ending.returned (.bool (Cm.tx []).toList.isEmpty) = _; rw [tx_empty]; rfl, by have L := M.out.low; rw [hH] at L; exact L⟩
set_option maxHeartbeats 16000000 in
theorem back_err_ok (c : Cm.Cmd) (hf : Cm.Fits c) (hsm : ∀ W, Calls Tryz.prog 8 #[.agg c.cells] W fun e w' => e = .returned (.bool true) ∧ Below W.heap.size W w') (s : ByteArray) (hs : s.size ≤ 3000) (bl : Nat) (hbl : bl < 256) (x : Cm.Cmd) (ex : Int) (hx : Cm.parse s.data.toList = (x, ex)) (ox : ex ≠ 0) (tc : List UInt8) (pc : Cm.print c = (tc, 0)) (qc : ∀ n, Cm.parse (tc ++ List.replicate n 32) = (c, 0)) (lc : tc.length ≤ 510) (w : World) (hl : Lv w) : Calls Tryz.prog 3 #[.string s, .agg c.cells, .int .u8 bl] w fun e w' => e = .returned (.bool true) ∧ Below w.heap.size w w' := by
  have hps := fun W (hW : Lv W) => commandParse_any s (by omega) W hW
  rw [hx] at hps
  dsimp only at hps
  have be : (ex == 0) = false := by simpa using ox
  have hpc := fun W (hW : Lv W) => commandPrint_any c hf W hW
  rw [pc] at hpc
  dsimp only at hpc
  have hpb := fun n (hn : n ≤ 5) W (hW : Lv W) => commandParse_any (Cm.tx (tc ++ List.replicate n 32)) (by rw [Cm.tx_size]; simp; omega) W hW
  simp only [Cm.tx_data, qc] at hpb
  have hs2 : decide ((3000 : Int) < (s.size : Int)) = false := decide_eq_false (by omega)
  clear hf hx pc ox qc
  obtain ⟨H, hH⟩ : ∃ H, w.heap.size = H := ⟨_, rfl⟩
  have M : Aside (Mine w [(H, c.cells, 31)] (w.alloc (.cells c.cells 31))) := ⟨Mine.new (Mine.start w) c.cells 31 H hH⟩
  go_enter Tryz.func3, Tryz.ntmps3
  rw [hH]
  go_wp2_with (first | (go_at_call 7; (with_reducible refine (awake_any _ (hl.next M.out.low)).mono ?_); rintro e w_ ⟨rfl, hb_⟩; replace M := Aside.mk (M.out.next hb_); clear hb_) | (go_at_call 8; (with_reducible refine (hsm _).mono ?_); rintro e w_ ⟨rfl, hb_⟩; replace M := Aside.mk (M.out.next hb_); clear hb_) | ((with_reducible refine at_dst (N := 24) rfl ?_); refine load_blk_g H 31 (by kernel_rfl) _ (by rfl) (by rfl) c.cells 31 _ (M.out.own (H, c.cells, 31) (by repeat (first | exact List.mem_cons_self .. | apply List.mem_cons_of_mem))).2 Tryz.underlying31 rfl (by kernel_rfl) ?_) | (go_at_call 9; (with_reducible refine (hps _ (hl.next M.out.low)).mono ?_); rintro e w_ ⟨rfl, hb_⟩; replace M := Aside.mk (M.out.next hb_); clear hb_; obtain ⟨bx, hbx⟩ : ∃ b, w_.heap.size = b := ⟨_, rfl⟩) | ((with_reducible refine at_store (p := 7) rfl ?_); refine store_new rfl 31 _ _ Cm.Cmd.zero.cells x.cells (by rfl) bx hbx (by rfl) (by rfl) (by kernel_rfl) (by rfl) (cmd_one _) ?_; replace M := Aside.mk (Mine.new M.out x.cells 31 bx hbx); clear hbx) | ((with_reducible refine at_dst (N := 65) rfl ?_); refine load_blk rfl 31 _ (by rfl) H (by rfl) c.cells 31 _ (M.out.own (H, c.cells, 31) (by repeat (first | exact List.mem_cons_self .. | apply List.mem_cons_of_mem))).2 Tryz.underlying31 rfl (by kernel_rfl) ?_) | (go_at_call 10; (with_reducible refine (hpc _ (hl.next M.out.low)).mono ?_); rintro e w9 ⟨rfl, hb_⟩; replace M := Aside.mk (M.out.next hb_); clear hb_))
  obtain ⟨m, hm⟩ : ∃ m, bl % 5 = m := ⟨_, rfl⟩
  have hm5 : m < 5 := by omega
  have htm : (bl : Int).tmod 5 = ((bl % 5 : Nat) : Int) := by rw [Int.tmod_eq_emod_of_nonneg (by omega)]; rfl
  go_loopw [13, 15] (fun t i wr => wr = w9 ∧ ∃ k : Nat, k ≤ m ∧ i = .int .i64 k ∧ t = .string (Cm.tx (tc ++ List.replicate k 32))) (fun _ i _ => m - (intOf i).toNat)
  case atStart => exact ⟨rfl, 0, by omega, rfl, by simp⟩
  case round =>
    obtain ⟨rfl, k, hk, rfl, rfl⟩ := hrel
    by_cases hlt : k < m
    · have d1 : decide ((k : Int) < ((bl % 5 : Nat) : Int)) = true := decide_eq_true (by omega)
      have d2 : decide ((k : Int) < (bl : Int) % 5) = true := decide_eq_true (by omega)
      have d3 : decide ((k : Int) < (bl : Int).tmod 5) = true := decide_eq_true (by omega)
      have HT : Aside (Cm.tx (tc ++ List.replicate k 32) ++ ⟨#[32]⟩ = Cm.tx (tc ++ List.replicate (k + 1) 32)) := ⟨by rw [List.replicate_succ']; apply ByteArray.ext; simp [Cm.tx]⟩
      have o1 : ¬ 9223372036854775807 < (Cm.tx (tc ++ List.replicate k 32)).size + 1 := by rw [Cm.tx_size]; simp; omega
      generalize Cm.tx (tc ++ List.replicate k 32) = tt at HT o1 ⊢
      go_wp2
      go_roundw
      case rel => exact ⟨by first | trivial | rfl, k + 1, by omega, by go_num, by rw [HT.out]⟩
      case measure => first | (simp [intOf]; done) | (simp [intOf]; omega)
    · have hke : k = m := by omega
      subst hke
      have d1 : decide ((k : Int) < ((bl % 5 : Nat) : Int)) = false := decide_eq_false (by omega)
      have d2 : decide ((k : Int) < (bl : Int) % 5) = false := decide_eq_false (by omega)
      have d3 : decide ((k : Int) < (bl : Int).tmod 5) = false := decide_eq_false (by omega)
      have hpk := fun W (hW : Lv W) => hpb k (by omega) W hW
      go_wp2_with (first | (go_at_call 9; (with_reducible refine (hpk _ (hl.next M.out.low)).mono ?_); rintro e w_ ⟨rfl, hb_⟩; replace M := Aside.mk (M.out.next hb_); clear hb_; obtain ⟨bz, hbz⟩ : ∃ b, w_.heap.size = b := ⟨_, rfl⟩) | ((with_reducible refine at_store (p := 16) rfl ?_); refine store_new rfl 31 _ _ Cm.Cmd.zero.cells c.cells (by rfl) bz hbz (by rfl) (by rfl) (by kernel_rfl) (by rfl) (cmd_one _) ?_; replace M := Aside.mk (Mine.new M.out c.cells 31 bz hbz); clear hbz) | ((with_reducible refine at_dst (N := 90) rfl ?_); refine load_blk_g bz 31 (by kernel_rfl) _ (by rfl) (by rfl) c.cells 31 _ (M.out.own (bz, c.cells, 31) (by repeat (first | exact List.mem_cons_self .. | apply List.mem_cons_of_mem))).2 Tryz.underlying31 rfl (by kernel_rfl) ?_) | ((with_reducible refine at_dst (N := 91) rfl ?_); refine load_blk_g H 31 (by kernel_rfl) _ (by rfl) (by rfl) c.cells 31 _ (M.out.own (H, c.cells, 31) (by repeat (first | exact List.mem_cons_self .. | apply List.mem_cons_of_mem))).2 Tryz.underlying31 rfl (by kernel_rfl) ?_) | ((with_reducible refine at_dst (N := 92) rfl ?_); refine step_value_g (by kernel_rfl) (.bool true) (eql_self c _ _ _ _ _ _ (by rfl) (by rfl) (by rfl)) ?_))
      go_ret
      exact ⟨by rfl, by have L := M.out.low; rw [hH] at L; exact L⟩
set_option maxHeartbeats 16000000 in
theorem back_ok_bad (c : Cm.Cmd) (hf : Cm.Fits c) (hsm : ∀ W, Calls Tryz.prog 8 #[.agg c.cells] W fun e w' => e = .returned (.bool true) ∧ Below W.heap.size W w') (s : ByteArray) (hs : s.size ≤ 3000) (bl : Nat) (hbl : bl < 256) (x : Cm.Cmd) (ex : Int) (hx : Cm.parse s.data.toList = (x, ex)) (ox : ex = 0) (fx : Cm.Fits x) (tx1 : List UInt8) (px : Cm.print x = (tx1, 0)) (qx : Cm.parse tx1 = (x, 0)) (lx : tx1.length ≤ 510) (ec : Int) (pc : Cm.print c = ([], ec)) (oc : ec ≠ 0) (w : World) (hl : Lv w) : Calls Tryz.prog 3 #[.string s, .agg c.cells, .int .u8 bl] w fun e w' => e = .returned (.bool true) ∧ Below w.heap.size w w' := by
  have hps := fun W (hW : Lv W) => commandParse_any s (by omega) W hW
  rw [hx] at hps
  dsimp only at hps
  subst ox
  have hpx := fun W (hW : Lv W) => commandPrint_any x fx W hW
  rw [px] at hpx
  dsimp only at hpx
  have hpt := fun W (hW : Lv W) => commandParse_any (Cm.tx tx1) (by rw [Cm.tx_size]; omega) W hW
  rw [Cm.tx_data, qx] at hpt
  dsimp only at hpt
  have hpc := fun W (hW : Lv W) => commandPrint_any c hf W hW
  rw [pc] at hpc
  dsimp only at hpc
  have bc : (ec != 0) = true := by simpa using oc
  have hs2 : decide ((3000 : Int) < (s.size : Int)) = false := decide_eq_false (by omega)
  clear hf hx pc fx px qx oc
  obtain ⟨H, hH⟩ : ∃ H, w.heap.size = H := ⟨_, rfl⟩
  have M : Aside (Mine w [(H, c.cells, 31)] (w.alloc (.cells c.cells 31))) := ⟨Mine.new (Mine.start w) c.cells 31 H hH⟩
  go_enter Tryz.func3, Tryz.ntmps3
  rw [hH]
  go_wp2_with (first | (go_at_call 7; (with_reducible refine (awake_any _ (hl.next M.out.low)).mono ?_); rintro e w_ ⟨rfl, hb_⟩; replace M := Aside.mk (M.out.next hb_); clear hb_) | (go_at_call 8; (with_reducible refine (hsm _).mono ?_); rintro e w_ ⟨rfl, hb_⟩; replace M := Aside.mk (M.out.next hb_); clear hb_) | ((with_reducible refine at_dst (N := 24) rfl ?_); refine load_blk_g H 31 (by kernel_rfl) _ (by rfl) (by rfl) c.cells 31 _ (M.out.own (H, c.cells, 31) (by repeat (first | exact List.mem_cons_self .. | apply List.mem_cons_of_mem))).2 Tryz.underlying31 rfl (by kernel_rfl) ?_) | (go_at_call 9; (with_reducible refine (hps _ (hl.next M.out.low)).mono ?_); rintro e w_ ⟨rfl, hb_⟩; replace M := Aside.mk (M.out.next hb_); clear hb_; obtain ⟨bx, hbx⟩ : ∃ b, w_.heap.size = b := ⟨_, rfl⟩) | ((with_reducible refine at_store (p := 7) rfl ?_); refine store_new rfl 31 _ _ Cm.Cmd.zero.cells x.cells (by rfl) bx hbx (by rfl) (by rfl) (by kernel_rfl) (by rfl) (cmd_one _) ?_; replace M := Aside.mk (Mine.new M.out x.cells 31 bx hbx); clear hbx) | ((with_reducible refine at_dst (N := 36) rfl ?_); refine load_blk rfl 31 _ (by rfl) bx (by rfl) x.cells 31 _ (M.out.own (bx, x.cells, 31) (by repeat (first | exact List.mem_cons_self .. | apply List.mem_cons_of_mem))).2 Tryz.underlying31 rfl (by kernel_rfl) ?_) | (go_at_call 10; (with_reducible refine (hpx _ (hl.next M.out.low)).mono ?_); rintro e w_ ⟨rfl, hb_⟩; replace M := Aside.mk (M.out.next hb_); clear hb_) | (go_at_call 9; (with_reducible refine (hpt _ (hl.next M.out.low)).mono ?_); rintro e w_ ⟨rfl, hb_⟩; replace M := Aside.mk (M.out.next hb_); clear hb_; obtain ⟨by1, hby1⟩ : ∃ b, w_.heap.size = b := ⟨_, rfl⟩) | ((with_reducible refine at_store (p := 11) rfl ?_); refine store_new rfl 31 _ _ Cm.Cmd.zero.cells x.cells (by rfl) by1 hby1 (by rfl) (by rfl) (by kernel_rfl) (by rfl) (cmd_one _) ?_; replace M := Aside.mk (Mine.new M.out x.cells 31 by1 hby1); clear hby1) | ((with_reducible refine at_dst (N := 51) rfl ?_); refine load_blk_g by1 31 (by kernel_rfl) _ (by rfl) (by rfl) x.cells 31 _ (M.out.own (by1, x.cells, 31) (by repeat (first | exact List.mem_cons_self .. | apply List.mem_cons_of_mem))).2 Tryz.underlying31 rfl (by kernel_rfl) ?_) | ((with_reducible refine at_dst (N := 52) rfl ?_); refine load_blk_g bx 31 (by kernel_rfl) _ (by rfl) (by rfl) x.cells 31 _ (M.out.own (bx, x.cells, 31) (by repeat (first | exact List.mem_cons_self .. | apply List.mem_cons_of_mem))).2 Tryz.underlying31 rfl (by kernel_rfl) ?_) | ((with_reducible refine at_dst (N := 53) rfl ?_); refine step_value_g (by kernel_rfl) (.bool false) (neq_self x _ _ _ _ _ _ (by rfl) (by rfl) (by rfl)) ?_) | ((with_reducible refine at_dst (N := 65) rfl ?_); refine load_blk rfl 31 _ (by rfl) H (by rfl) c.cells 31 _ (M.out.own (H, c.cells, 31) (by repeat (first | exact List.mem_cons_self .. | apply List.mem_cons_of_mem))).2 Tryz.underlying31 rfl (by kernel_rfl) ?_) | (go_at_call 10; (with_reducible refine (hpc _ (hl.next M.out.low)).mono ?_); rintro e w9 ⟨rfl, hb_⟩; replace M := Aside.mk (M.out.next hb_); clear hb_))
  go_ret
  exact ⟨by show Ending.returned (.bool (Cm.tx []).toList.isEmpty) = _; rw [tx_empty]; rfl, by have L := M.out.low; rw [hH] at L; exact L⟩
set_option maxHeartbeats 16000000 in
theorem back_ok_ok (c : Cm.Cmd) (hf : Cm.Fits c) (hsm : ∀ W, Calls Tryz.prog 8 #[.agg c.cells] W fun e w' => e = .returned (.bool true) ∧ Below W.heap.size W w') (s : ByteArray) (hs : s.size ≤ 3000) (bl : Nat) (hbl : bl < 256) (x : Cm.Cmd) (ex : Int) (hx : Cm.parse s.data.toList = (x, ex)) (ox : ex = 0) (fx : Cm.Fits x) (tx1 : List UInt8) (px : Cm.print x = (tx1, 0)) (qx : Cm.parse tx1 = (x, 0)) (lx : tx1.length ≤ 510) (tc : List UInt8) (pc : Cm.print c = (tc, 0)) (qc : ∀ n, Cm.parse (tc ++ List.replicate n 32) = (c, 0)) (lc : tc.length ≤ 510) (w : World) (hl : Lv w) : Calls Tryz.prog 3 #[.string s, .agg c.cells, .int .u8 bl] w fun e w' => e = .returned (.bool true) ∧ Below w.heap.size w w' := by
  have hps := fun W (hW : Lv W) => commandParse_any s (by omega) W hW
  rw [hx] at hps
  dsimp only at hps
  subst ox
  have hpx := fun W (hW : Lv W) => commandPrint_any x fx W hW
  rw [px] at hpx
  dsimp only at hpx
  have hpt := fun W (hW : Lv W) => commandParse_any (Cm.tx tx1) (by rw [Cm.tx_size]; omega) W hW
  rw [Cm.tx_data, qx] at hpt
  dsimp only at hpt
  have hpc := fun W (hW : Lv W) => commandPrint_any c hf W hW
  rw [pc] at hpc
  dsimp only at hpc
  have hpb := fun n (hn : n ≤ 5) W (hW : Lv W) => commandParse_any (Cm.tx (tc ++ List.replicate n 32)) (by rw [Cm.tx_size]; simp; omega) W hW
  simp only [Cm.tx_data, qc] at hpb
  have hs2 : decide ((3000 : Int) < (s.size : Int)) = false := decide_eq_false (by omega)
  clear hf hx pc fx px qx qc
  obtain ⟨H, hH⟩ : ∃ H, w.heap.size = H := ⟨_, rfl⟩
  have M : Aside (Mine w [(H, c.cells, 31)] (w.alloc (.cells c.cells 31))) := ⟨Mine.new (Mine.start w) c.cells 31 H hH⟩
  go_enter Tryz.func3, Tryz.ntmps3
  rw [hH]
  go_wp2_with (first | (go_at_call 7; (with_reducible refine (awake_any _ (hl.next M.out.low)).mono ?_); rintro e w_ ⟨rfl, hb_⟩; replace M := Aside.mk (M.out.next hb_); clear hb_) | (go_at_call 8; (with_reducible refine (hsm _).mono ?_); rintro e w_ ⟨rfl, hb_⟩; replace M := Aside.mk (M.out.next hb_); clear hb_) | ((with_reducible refine at_dst (N := 24) rfl ?_); refine load_blk_g H 31 (by kernel_rfl) _ (by rfl) (by rfl) c.cells 31 _ (M.out.own (H, c.cells, 31) (by repeat (first | exact List.mem_cons_self .. | apply List.mem_cons_of_mem))).2 Tryz.underlying31 rfl (by kernel_rfl) ?_) | (go_at_call 9; (with_reducible refine (hps _ (hl.next M.out.low)).mono ?_); rintro e w_ ⟨rfl, hb_⟩; replace M := Aside.mk (M.out.next hb_); clear hb_; obtain ⟨bx, hbx⟩ : ∃ b, w_.heap.size = b := ⟨_, rfl⟩) | ((with_reducible refine at_store (p := 7) rfl ?_); refine store_new rfl 31 _ _ Cm.Cmd.zero.cells x.cells (by rfl) bx hbx (by rfl) (by rfl) (by kernel_rfl) (by rfl) (cmd_one _) ?_; replace M := Aside.mk (Mine.new M.out x.cells 31 bx hbx); clear hbx) | ((with_reducible refine at_dst (N := 36) rfl ?_); refine load_blk rfl 31 _ (by rfl) bx (by rfl) x.cells 31 _ (M.out.own (bx, x.cells, 31) (by repeat (first | exact List.mem_cons_self .. | apply List.mem_cons_of_mem))).2 Tryz.underlying31 rfl (by kernel_rfl) ?_) | (go_at_call 10; (with_reducible refine (hpx _ (hl.next M.out.low)).mono ?_); rintro e w_ ⟨rfl, hb_⟩; replace M := Aside.mk (M.out.next hb_); clear hb_) | (go_at_call 9; (with_reducible refine (hpt _ (hl.next M.out.low)).mono ?_); rintro e w_ ⟨rfl, hb_⟩; replace M := Aside.mk (M.out.next hb_); clear hb_; obtain ⟨by1, hby1⟩ : ∃ b, w_.heap.size = b := ⟨_, rfl⟩) | ((with_reducible refine at_store (p := 11) rfl ?_); refine store_new rfl 31 _ _ Cm.Cmd.zero.cells x.cells (by rfl) by1 hby1 (by rfl) (by rfl) (by kernel_rfl) (by rfl) (cmd_one _) ?_; replace M := Aside.mk (Mine.new M.out x.cells 31 by1 hby1); clear hby1) | ((with_reducible refine at_dst (N := 51) rfl ?_); refine load_blk_g by1 31 (by kernel_rfl) _ (by rfl) (by rfl) x.cells 31 _ (M.out.own (by1, x.cells, 31) (by repeat (first | exact List.mem_cons_self .. | apply List.mem_cons_of_mem))).2 Tryz.underlying31 rfl (by kernel_rfl) ?_) | ((with_reducible refine at_dst (N := 52) rfl ?_); refine load_blk_g bx 31 (by kernel_rfl) _ (by rfl) (by rfl) x.cells 31 _ (M.out.own (bx, x.cells, 31) (by repeat (first | exact List.mem_cons_self .. | apply List.mem_cons_of_mem))).2 Tryz.underlying31 rfl (by kernel_rfl) ?_) | ((with_reducible refine at_dst (N := 53) rfl ?_); refine step_value_g (by kernel_rfl) (.bool false) (neq_self x _ _ _ _ _ _ (by rfl) (by rfl) (by rfl)) ?_) | ((with_reducible refine at_dst (N := 65) rfl ?_); refine load_blk rfl 31 _ (by rfl) H (by rfl) c.cells 31 _ (M.out.own (H, c.cells, 31) (by repeat (first | exact List.mem_cons_self .. | apply List.mem_cons_of_mem))).2 Tryz.underlying31 rfl (by kernel_rfl) ?_) | (go_at_call 10; (with_reducible refine (hpc _ (hl.next M.out.low)).mono ?_); rintro e w9 ⟨rfl, hb_⟩; replace M := Aside.mk (M.out.next hb_); clear hb_))
  obtain ⟨m, hm⟩ : ∃ m, bl % 5 = m := ⟨_, rfl⟩
  have hm5 : m < 5 := by omega
  have htm : (bl : Int).tmod 5 = ((bl % 5 : Nat) : Int) := by rw [Int.tmod_eq_emod_of_nonneg (by omega)]; rfl
  go_loopw [13, 15] (fun t i wr => wr = w9 ∧ ∃ k : Nat, k ≤ m ∧ i = .int .i64 k ∧ t = .string (Cm.tx (tc ++ List.replicate k 32))) (fun _ i _ => m - (intOf i).toNat)
  case atStart => exact ⟨rfl, 0, by omega, rfl, by simp⟩
  case round =>
    obtain ⟨rfl, k, hk, rfl, rfl⟩ := hrel
    by_cases hlt : k < m
    · have d1 : decide ((k : Int) < ((bl % 5 : Nat) : Int)) = true := decide_eq_true (by omega)
      have d2 : decide ((k : Int) < (bl : Int) % 5) = true := decide_eq_true (by omega)
      have d3 : decide ((k : Int) < (bl : Int).tmod 5) = true := decide_eq_true (by omega)
      have HT : Aside (Cm.tx (tc ++ List.replicate k 32) ++ ⟨#[32]⟩ = Cm.tx (tc ++ List.replicate (k + 1) 32)) := ⟨by rw [List.replicate_succ']; apply ByteArray.ext; simp [Cm.tx]⟩
      have o1 : ¬ 9223372036854775807 < (Cm.tx (tc ++ List.replicate k 32)).size + 1 := by rw [Cm.tx_size]; simp; omega
      generalize Cm.tx (tc ++ List.replicate k 32) = tt at HT o1 ⊢
      go_wp2
      go_roundw
      case rel => exact ⟨by first | trivial | rfl, k + 1, by omega, by go_num, by rw [HT.out]⟩
      case measure => first | (simp [intOf]; done) | (simp [intOf]; omega)
    · have hke : k = m := by omega
      subst hke
      have d1 : decide ((k : Int) < ((bl % 5 : Nat) : Int)) = false := decide_eq_false (by omega)
      have d2 : decide ((k : Int) < (bl : Int) % 5) = false := decide_eq_false (by omega)
      have d3 : decide ((k : Int) < (bl : Int).tmod 5) = false := decide_eq_false (by omega)
      have hpk := fun W (hW : Lv W) => hpb k (by omega) W hW
      go_wp2_with (first | (go_at_call 9; (with_reducible refine (hpk _ (hl.next M.out.low)).mono ?_); rintro e w_ ⟨rfl, hb_⟩; replace M := Aside.mk (M.out.next hb_); clear hb_; obtain ⟨bz, hbz⟩ : ∃ b, w_.heap.size = b := ⟨_, rfl⟩) | ((with_reducible refine at_store (p := 16) rfl ?_); refine store_new rfl 31 _ _ Cm.Cmd.zero.cells c.cells (by rfl) bz hbz (by rfl) (by rfl) (by kernel_rfl) (by rfl) (cmd_one _) ?_; replace M := Aside.mk (Mine.new M.out c.cells 31 bz hbz); clear hbz) | ((with_reducible refine at_dst (N := 90) rfl ?_); refine load_blk_g bz 31 (by kernel_rfl) _ (by rfl) (by rfl) c.cells 31 _ (M.out.own (bz, c.cells, 31) (by repeat (first | exact List.mem_cons_self .. | apply List.mem_cons_of_mem))).2 Tryz.underlying31 rfl (by kernel_rfl) ?_) | ((with_reducible refine at_dst (N := 91) rfl ?_); refine load_blk_g H 31 (by kernel_rfl) _ (by rfl) (by rfl) c.cells 31 _ (M.out.own (H, c.cells, 31) (by repeat (first | exact List.mem_cons_self .. | apply List.mem_cons_of_mem))).2 Tryz.underlying31 rfl (by kernel_rfl) ?_) | ((with_reducible refine at_dst (N := 92) rfl ?_); refine step_value_g (by kernel_rfl) (.bool true) (eql_self c _ _ _ _ _ _ (by rfl) (by rfl) (by rfl)) ?_))
      go_ret
      exact ⟨by rfl, by have L := M.out.low; rw [hH] at L; exact L⟩
set_option maxHeartbeats 16000000 in
theorem back_long_bad (c : Cm.Cmd) (hf : Cm.Fits c) (hsm : ∀ W, Calls Tryz.prog 8 #[.agg c.cells] W fun e w' => e = .returned (.bool true) ∧ Below W.heap.size W w') (s : ByteArray) (hs : s.size ≤ 3000) (bl : Nat) (hbl : bl < 256) (x : Cm.Cmd) (ex : Int) (hx : Cm.parse s.data.toList = (x, ex)) (ox : ex = 0) (fx : Cm.Fits x) (px : Cm.print x = ([], 3)) (ec : Int) (pc : Cm.print c = ([], ec)) (oc : ec ≠ 0) (w : World) (hl : Lv w) : Calls Tryz.prog 3 #[.string s, .agg c.cells, .int .u8 bl] w fun e w' => e = .returned (.bool true) ∧ Below w.heap.size w w' := by
  have hps := fun W (hW : Lv W) => commandParse_any s (by omega) W hW
  rw [hx] at hps
  dsimp only at hps
  subst ox
  have hpx := fun W (hW : Lv W) => commandPrint_any x fx W hW
  rw [px] at hpx
  dsimp only at hpx
  have hpt := fun W (hW : Lv W) => commandParse_any (Cm.tx []) (by decide) W hW
  rw [Cm.tx_data, parse_nil] at hpt
  dsimp only at hpt
  have hpc := fun W (hW : Lv W) => commandPrint_any c hf W hW
  rw [pc] at hpc
  dsimp only at hpc
  have bc : (ec != 0) = true := by simpa using oc
  have hs2 : decide ((3000 : Int) < (s.size : Int)) = false := decide_eq_false (by omega)
  clear hf hx pc fx px oc
  obtain ⟨H, hH⟩ : ∃ H, w.heap.size = H := ⟨_, rfl⟩
  have M : Aside (Mine w [(H, c.cells, 31)] (w.alloc (.cells c.cells 31))) := ⟨Mine.new (Mine.start w) c.cells 31 H hH⟩
  go_enter Tryz.func3, Tryz.ntmps3
  rw [hH]
  go_wp2_with (first | (go_at_call 7; (with_reducible refine (awake_any _ (hl.next M.out.low)).mono ?_); rintro e w_ ⟨rfl, hb_⟩; replace M := Aside.mk (M.out.next hb_); clear hb_) | (go_at_call 8; (with_reducible refine (hsm _).mono ?_); rintro e w_ ⟨rfl, hb_⟩; replace M := Aside.mk (M.out.next hb_); clear hb_) | ((with_reducible refine at_dst (N := 24) rfl ?_); refine load_blk_g H 31 (by kernel_rfl) _ (by rfl) (by rfl) c.cells 31 _ (M.out.own (H, c.cells, 31) (by repeat (first | exact List.mem_cons_self .. | apply List.mem_cons_of_mem))).2 Tryz.underlying31 rfl (by kernel_rfl) ?_) | (go_at_call 9; (with_reducible refine (hps _ (hl.next M.out.low)).mono ?_); rintro e w_ ⟨rfl, hb_⟩; replace M := Aside.mk (M.out.next hb_); clear hb_; obtain ⟨bx, hbx⟩ : ∃ b, w_.heap.size = b := ⟨_, rfl⟩) | ((with_reducible refine at_store (p := 7) rfl ?_); refine store_new rfl 31 _ _ Cm.Cmd.zero.cells x.cells (by rfl) bx hbx (by rfl) (by rfl) (by kernel_rfl) (by rfl) (cmd_one _) ?_; replace M := Aside.mk (Mine.new M.out x.cells 31 bx hbx); clear hbx) | ((with_reducible refine at_dst (N := 36) rfl ?_); refine load_blk rfl 31 _ (by rfl) bx (by rfl) x.cells 31 _ (M.out.own (bx, x.cells, 31) (by repeat (first | exact List.mem_cons_self .. | apply List.mem_cons_of_mem))).2 Tryz.underlying31 rfl (by kernel_rfl) ?_) | (go_at_call 10; (with_reducible refine (hpx _ (hl.next M.out.low)).mono ?_); rintro e w_ ⟨rfl, hb_⟩; replace M := Aside.mk (M.out.next hb_); clear hb_) | (go_at_call 9; (with_reducible refine (hpt _ (hl.next M.out.low)).mono ?_); rintro e w_ ⟨rfl, hb_⟩; replace M := Aside.mk (M.out.next hb_); clear hb_; obtain ⟨by1, hby1⟩ : ∃ b, w_.heap.size = b := ⟨_, rfl⟩) | ((with_reducible refine at_store (p := 11) rfl ?_); refine store_new rfl 31 _ _ Cm.Cmd.zero.cells Cm.Cmd.zero.cells (by rfl) by1 hby1 (by rfl) (by rfl) (by kernel_rfl) (by rfl) (cmd_one _) ?_; replace M := Aside.mk (Mine.new M.out Cm.Cmd.zero.cells 31 by1 hby1); clear hby1) | ((with_reducible refine at_dst (N := 65) rfl ?_); refine load_blk rfl 31 _ (by rfl) H (by rfl) c.cells 31 _ (M.out.own (H, c.cells, 31) (by repeat (first | exact List.mem_cons_self .. | apply List.mem_cons_of_mem))).2 Tryz.underlying31 rfl (by kernel_rfl) ?_) | (go_at_call 10; (with_reducible refine (hpc _ (hl.next M.out.low)).mono ?_); rintro e w9 ⟨rfl, hb_⟩; replace M := Aside.mk (M.out.next hb_); clear hb_))
  go_ret
  exact ⟨by show Ending.returned (.bool (Cm.tx []).toList.isEmpty) = _; rw [tx_empty]; rfl, by have L := M.out.low; rw [hH] at L; exact L⟩
set_option maxHeartbeats 16000000 in
theorem back_long_ok (c : Cm.Cmd) (hf : Cm.Fits c) (hsm : ∀ W, Calls Tryz.prog 8 #[.agg c.cells] W fun e w' => e = .returned (.bool true) ∧ Below W.heap.size W w') (s : ByteArray) (hs : s.size ≤ 3000) (bl : Nat) (hbl : bl < 256) (x : Cm.Cmd) (ex : Int) (hx : Cm.parse s.data.toList = (x, ex)) (ox : ex = 0) (fx : Cm.Fits x) (px : Cm.print x = ([], 3)) (tc : List UInt8) (pc : Cm.print c = (tc, 0)) (qc : ∀ n, Cm.parse (tc ++ List.replicate n 32) = (c, 0)) (lc : tc.length ≤ 510) (w : World) (hl : Lv w) : Calls Tryz.prog 3 #[.string s, .agg c.cells, .int .u8 bl] w fun e w' => e = .returned (.bool true) ∧ Below w.heap.size w w' := by
  have hps := fun W (hW : Lv W) => commandParse_any s (by omega) W hW
  rw [hx] at hps
  dsimp only at hps
  subst ox
  have hpx := fun W (hW : Lv W) => commandPrint_any x fx W hW
  rw [px] at hpx
  dsimp only at hpx
  have hpt := fun W (hW : Lv W) => commandParse_any (Cm.tx []) (by decide) W hW
  rw [Cm.tx_data, parse_nil] at hpt
  dsimp only at hpt
  have hpc := fun W (hW : Lv W) => commandPrint_any c hf W hW
  rw [pc] at hpc
  dsimp only at hpc
  have hpb := fun n (hn : n ≤ 5) W (hW : Lv W) => commandParse_any (Cm.tx (tc ++ List.replicate n 32)) (by rw [Cm.tx_size]; simp; omega) W hW
  simp only [Cm.tx_data, qc] at hpb
  have hs2 : decide ((3000 : Int) < (s.size : Int)) = false := decide_eq_false (by omega)
  clear hf hx pc fx px qc
  obtain ⟨H, hH⟩ : ∃ H, w.heap.size = H := ⟨_, rfl⟩
  have M : Aside (Mine w [(H, c.cells, 31)] (w.alloc (.cells c.cells 31))) := ⟨Mine.new (Mine.start w) c.cells 31 H hH⟩
  go_enter Tryz.func3, Tryz.ntmps3
  rw [hH]
  go_wp2_with (first | (go_at_call 7; (with_reducible refine (awake_any _ (hl.next M.out.low)).mono ?_); rintro e w_ ⟨rfl, hb_⟩; replace M := Aside.mk (M.out.next hb_); clear hb_) | (go_at_call 8; (with_reducible refine (hsm _).mono ?_); rintro e w_ ⟨rfl, hb_⟩; replace M := Aside.mk (M.out.next hb_); clear hb_) | ((with_reducible refine at_dst (N := 24) rfl ?_); refine load_blk_g H 31 (by kernel_rfl) _ (by rfl) (by rfl) c.cells 31 _ (M.out.own (H, c.cells, 31) (by repeat (first | exact List.mem_cons_self .. | apply List.mem_cons_of_mem))).2 Tryz.underlying31 rfl (by kernel_rfl) ?_) | (go_at_call 9; (with_reducible refine (hps _ (hl.next M.out.low)).mono ?_); rintro e w_ ⟨rfl, hb_⟩; replace M := Aside.mk (M.out.next hb_); clear hb_; obtain ⟨bx, hbx⟩ : ∃ b, w_.heap.size = b := ⟨_, rfl⟩) | ((with_reducible refine at_store (p := 7) rfl ?_); refine store_new rfl 31 _ _ Cm.Cmd.zero.cells x.cells (by rfl) bx hbx (by rfl) (by rfl) (by kernel_rfl) (by rfl) (cmd_one _) ?_; replace M := Aside.mk (Mine.new M.out x.cells 31 bx hbx); clear hbx) | ((with_reducible refine at_dst (N := 36) rfl ?_); refine load_blk rfl 31 _ (by rfl) bx (by rfl) x.cells 31 _ (M.out.own (bx, x.cells, 31) (by repeat (first | exact List.mem_cons_self .. | apply List.mem_cons_of_mem))).2 Tryz.underlying31 rfl (by kernel_rfl) ?_) | (go_at_call 10; (with_reducible refine (hpx _ (hl.next M.out.low)).mono ?_); rintro e w_ ⟨rfl, hb_⟩; replace M := Aside.mk (M.out.next hb_); clear hb_) | (go_at_call 9; (with_reducible refine (hpt _ (hl.next M.out.low)).mono ?_); rintro e w_ ⟨rfl, hb_⟩; replace M := Aside.mk (M.out.next hb_); clear hb_; obtain ⟨by1, hby1⟩ : ∃ b, w_.heap.size = b := ⟨_, rfl⟩) | ((with_reducible refine at_store (p := 11) rfl ?_); refine store_new rfl 31 _ _ Cm.Cmd.zero.cells Cm.Cmd.zero.cells (by rfl) by1 hby1 (by rfl) (by rfl) (by kernel_rfl) (by rfl) (cmd_one _) ?_; replace M := Aside.mk (Mine.new M.out Cm.Cmd.zero.cells 31 by1 hby1); clear hby1) | ((with_reducible refine at_dst (N := 65) rfl ?_); refine load_blk rfl 31 _ (by rfl) H (by rfl) c.cells 31 _ (M.out.own (H, c.cells, 31) (by repeat (first | exact List.mem_cons_self .. | apply List.mem_cons_of_mem))).2 Tryz.underlying31 rfl (by kernel_rfl) ?_) | (go_at_call 10; (with_reducible refine (hpc _ (hl.next M.out.low)).mono ?_); rintro e w9 ⟨rfl, hb_⟩; replace M := Aside.mk (M.out.next hb_); clear hb_))
  obtain ⟨m, hm⟩ : ∃ m, bl % 5 = m := ⟨_, rfl⟩
  have hm5 : m < 5 := by omega
  have htm : (bl : Int).tmod 5 = ((bl % 5 : Nat) : Int) := by rw [Int.tmod_eq_emod_of_nonneg (by omega)]; rfl
  go_loopw [13, 15] (fun t i wr => wr = w9 ∧ ∃ k : Nat, k ≤ m ∧ i = .int .i64 k ∧ t = .string (Cm.tx (tc ++ List.replicate k 32))) (fun _ i _ => m - (intOf i).toNat)
  case atStart => exact ⟨rfl, 0, by omega, rfl, by simp⟩
  case round =>
    obtain ⟨rfl, k, hk, rfl, rfl⟩ := hrel
    by_cases hlt : k < m
    · have d1 : decide ((k : Int) < ((bl % 5 : Nat) : Int)) = true := decide_eq_true (by omega)
      have d2 : decide ((k : Int) < (bl : Int) % 5) = true := decide_eq_true (by omega)
      have d3 : decide ((k : Int) < (bl : Int).tmod 5) = true := decide_eq_true (by omega)
      have HT : Aside (Cm.tx (tc ++ List.replicate k 32) ++ ⟨#[32]⟩ = Cm.tx (tc ++ List.replicate (k + 1) 32)) := ⟨by rw [List.replicate_succ']; apply ByteArray.ext; simp [Cm.tx]⟩
      have o1 : ¬ 9223372036854775807 < (Cm.tx (tc ++ List.replicate k 32)).size + 1 := by rw [Cm.tx_size]; simp; omega
      generalize Cm.tx (tc ++ List.replicate k 32) = tt at HT o1 ⊢
      go_wp2
      go_roundw
      case rel => exact ⟨by first | trivial | rfl, k + 1, by omega, by go_num, by rw [HT.out]⟩
      case measure => first | (simp [intOf]; done) | (simp [intOf]; omega)
    · have hke : k = m := by omega
      subst hke
      have d1 : decide ((k : Int) < ((bl % 5 : Nat) : Int)) = false := decide_eq_false (by omega)
      have d2 : decide ((k : Int) < (bl : Int) % 5) = false := decide_eq_false (by omega)
      have d3 : decide ((k : Int) < (bl : Int).tmod 5) = false := decide_eq_false (by omega)
      have hpk := fun W (hW : Lv W) => hpb k (by omega) W hW
      go_wp2_with (first | (go_at_call 9; (with_reducible refine (hpk _ (hl.next M.out.low)).mono ?_); rintro e w_ ⟨rfl, hb_⟩; replace M := Aside.mk (M.out.next hb_); clear hb_; obtain ⟨bz, hbz⟩ : ∃ b, w_.heap.size = b := ⟨_, rfl⟩) | ((with_reducible refine at_store (p := 16) rfl ?_); refine store_new rfl 31 _ _ Cm.Cmd.zero.cells c.cells (by rfl) bz hbz (by rfl) (by rfl) (by kernel_rfl) (by rfl) (cmd_one _) ?_; replace M := Aside.mk (Mine.new M.out c.cells 31 bz hbz); clear hbz) | ((with_reducible refine at_dst (N := 90) rfl ?_); refine load_blk_g bz 31 (by kernel_rfl) _ (by rfl) (by rfl) c.cells 31 _ (M.out.own (bz, c.cells, 31) (by repeat (first | exact List.mem_cons_self .. | apply List.mem_cons_of_mem))).2 Tryz.underlying31 rfl (by kernel_rfl) ?_) | ((with_reducible refine at_dst (N := 91) rfl ?_); refine load_blk_g H 31 (by kernel_rfl) _ (by rfl) (by rfl) c.cells 31 _ (M.out.own (H, c.cells, 31) (by repeat (first | exact List.mem_cons_self .. | apply List.mem_cons_of_mem))).2 Tryz.underlying31 rfl (by kernel_rfl) ?_) | ((with_reducible refine at_dst (N := 92) rfl ?_); refine step_value_g (by kernel_rfl) (.bool true) (eql_self c _ _ _ _ _ _ (by rfl) (by rfl) (by rfl)) ?_))
      go_ret
      exact ⟨by rfl, by have L := M.out.low; rw [hH] at L; exact L⟩
end Go.Proofs.YtllhbcpbihhdnaaGreatDoor
