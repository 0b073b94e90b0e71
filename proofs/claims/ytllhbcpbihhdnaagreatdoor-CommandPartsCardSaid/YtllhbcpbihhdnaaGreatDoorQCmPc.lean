/-
  Commands: Print (others).
-/
import Derived.Test.YtllhbcpbihhdnaaGreatDoorQ5
set_option linter.unusedVariables false
set_option linter.unusedSimpArgs false
namespace Go.Proofs.YtllhbcpbihhdnaaGreatDoor
open Go.RowKit Go.Shelf Pm
set_option maxRecDepth 100000
set_option maxHeartbeats 16000000 in
theorem pr_kind (v arg lo dm : List UInt8) (ml : Ml) (rc : Rc) (hv : decide (v ∈ Cm.verbs) = false) (w : World) (hl : Lv w) : Calls Tryz.prog 10 #[.agg (⟨v, arg, lo, dm, ml, rc⟩ : Cm.Cmd).cells] w fun e w' => e = .returned (.tuple #[.string ⟨#[]⟩, .int .i64 10]) ∧ Below w.heap.size w w' := by
  have SP : Aside (PrS w w.heap.size (⟨v, arg, lo, dm, ml, rc⟩ : Cm.Cmd) (w.alloc (.cells (⟨v, arg, lo, dm, ml, rc⟩ : Cm.Cmd).cells 31))) := ⟨(Below.refl _ w).alloc (Nat.le_refl _) _, by simp, Blk.new _ _⟩
  have z0 := Blk.cell SP.out.cmd 0 (.string (Cm.tx v)) rfl
  have hcl := fun b W hb => contains_lit (Cm.tx v) v rfl false hv b W hb
  have HVB : Aside (Blk ((w.alloc (.cells (⟨v, arg, lo, dm, ml, rc⟩ : Cm.Cmd).cells 31)).alloc (.cells Cm.verbVals 9)).drew (w.heap.size + 1) Cm.verbVals 9) := ⟨by have := Blk.new (w := w.alloc (.cells (⟨v, arg, lo, dm, ml, rc⟩ : Cm.Cmd).cells 31)) Cm.verbVals 9; rw [World.size_alloc] at this; exact this⟩
  go_enter Tryz.func10, Tryz.ntmps10
  go_wp2_with fail
  go_region_held3 (fun w' => w'.cell? ⟨w.heap.size, 0, none⟩ = some (.string (Cm.tx v))) (first | go_keep | exact z0) (first | (go_at_call 16; (with_reducible refine (verbs_any _).mono ?_); rintro e w1 ⟨rfl, hw1⟩; subst hw1) | (go_at_call 25; (with_reducible refine (hcl (w.heap.size + 1) _ HVB.out).mono ?_); rintro e w2 ⟨rfl, hw2⟩; subst hw2))
  go_wp2
  go_ret2
  exact ⟨rfl, ((SP.out.alloc (.cells Cm.verbVals 9)).drew).low⟩
set_option maxHeartbeats 16000000 in
theorem po_all (v arg lo dm : List UInt8) (ml : Ml) (rc : Rc) (hv : decide (v ∈ Cm.verbs) = true) (hM : ((Cm.tx v).toList == [77, 65, 73, 76]) = false) (hR : ((Cm.tx v).toList == [82, 67, 80, 84]) = false) (hz : v.length + arg.length ≤ 90000) (S : ByteArray) (hS : (Cm.tx arg).toList.isEmpty = true ∧ S = Cm.tx v ∨ (Cm.tx arg).toList.isEmpty = false ∧ S = Cm.tx v ++ (⟨#[32]⟩ ++ Cm.tx arg)) (pc : Cm.Cmd) (pe : Int) (hpa : ∀ W, Lv W → Calls Tryz.prog 9 #[.string S] W fun e w' => e = .returned (.tuple #[.agg pc.cells, .int .i64 pe]) ∧ Below W.heap.size W w') (nq : Bool) (hq : (!(⟨v, arg, lo, dm, ml, rc⟩ : Cm.Cmd).eqb (⟨v, arg, [], [], Ml.zero, Rc.zero⟩ : Cm.Cmd)) = nq) (nq2 : Bool) (hq2 : (!pc.eqb (⟨v, arg, lo, dm, ml, rc⟩ : Cm.Cmd)) = nq2) (res : ByteArray) (err : Int) (hc : nq = true ∧ res = ⟨#[]⟩ ∧ err = 2 ∨ nq = false ∧ (((pe != 0) = true ∧ res = ⟨#[]⟩ ∧ err = 2) ∨ (pe = 0 ∧ (nq2 = true ∧ res = ⟨#[]⟩ ∧ err = 2 ∨ nq2 = false ∧ (decide ((510 : Int) < (S.size : Int)) = false ∧ res = S ∧ err = 0 ∨ decide ((510 : Int) < (S.size : Int)) = true ∧ res = ⟨#[]⟩ ∧ err = 3))))) (w : World) (hl : Lv w) : Calls Tryz.prog 10 #[.agg (⟨v, arg, lo, dm, ml, rc⟩ : Cm.Cmd).cells] w fun e w' => e = .returned (.tuple #[.string res, .int .i64 err]) ∧ Below w.heap.size w w' := by
  have t1 := Cm.tx_size v
  have t2 := Cm.tx_size arg
  have o1 : ¬ 9223372036854775807 < 1 + (Cm.tx arg).size := by omega
  have o2 : ¬ 9223372036854775807 < (Cm.tx v).size + (1 + (Cm.tx arg).size) := by omega
  have NQ := Aside.mk hq
  have NQ2 := Aside.mk hq2
  have HC := Aside.mk hc
  have HS := Aside.mk hS
  clear hq hq2 hc hS hz t1 t2
  have SP : Aside (PrS w w.heap.size (⟨v, arg, lo, dm, ml, rc⟩ : Cm.Cmd) (w.alloc (.cells (⟨v, arg, lo, dm, ml, rc⟩ : Cm.Cmd).cells 31))) := ⟨(Below.refl _ w).alloc (Nat.le_refl _) _, by simp, Blk.new _ _⟩
  have z0 := Blk.cell SP.out.cmd 0 (.string (Cm.tx v)) rfl
  have hcl := fun b W hb => contains_lit (Cm.tx v) v rfl true hv b W hb
  have HVB : Aside (Blk ((w.alloc (.cells (⟨v, arg, lo, dm, ml, rc⟩ : Cm.Cmd).cells 31)).alloc (.cells Cm.verbVals 9)).drew (w.heap.size + 1) Cm.verbVals 9) := ⟨by have := Blk.new (w := w.alloc (.cells (⟨v, arg, lo, dm, ml, rc⟩ : Cm.Cmd).cells 31)) Cm.verbVals 9; rw [World.size_alloc] at this; exact this⟩
  go_enter Tryz.func10, Tryz.ntmps10
  go_wp2_with fail
  go_region_held3 (fun w' => w'.cell? ⟨w.heap.size, 0, none⟩ = some (.string (Cm.tx v))) (first | go_keep | exact z0) (first | (go_at_call 16; (with_reducible refine (verbs_any _).mono ?_); rintro e w1 ⟨rfl, hw1⟩; subst hw1) | (go_at_call 25; (with_reducible refine (hcl (w.heap.size + 1) _ HVB.out).mono ?_); rintro e w2 ⟨rfl, hw2⟩; subst hw2))
  have SQ : Aside (PrS w w.heap.size (⟨v, arg, lo, dm, ml, rc⟩ : Cm.Cmd) ((w.alloc (.cells (⟨v, arg, lo, dm, ml, rc⟩ : Cm.Cmd).cells 31)).alloc (.cells Cm.verbVals 9)).drew) := ⟨(SP.out.alloc _).drew⟩
  obtain ⟨W1, hW1⟩ : ∃ W, ((w.alloc (.cells (⟨v, arg, lo, dm, ml, rc⟩ : Cm.Cmd).cells 31)).alloc (.cells Cm.verbVals 9)).drew = W := ⟨_, rfl⟩
  rw [hW1] at SQ ⊢
  clear SP HVB z0 hW1 hcl
  obtain ⟨bb, hbb⟩ : ∃ b, W1.heap.size = b := ⟨_, rfl⟩
  have z0 := Blk.cell SQ.out.cmd 0 (.string (Cm.tx v)) rfl
  have HP : Aside (PrP w w.heap.size (⟨v, arg, lo, dm, ml, rc⟩ : Cm.Cmd) bb (⟨v, [], [], [], Ml.zero, Rc.zero⟩ : Cm.Cmd) (W1.alloc (.cells (⟨v, [], [], [], Ml.zero, Rc.zero⟩ : Cm.Cmd).cells 31))) := ⟨SQ.out.alloc _, by have := SQ.out.sz; omega, hbb ▸ Blk.new _ _⟩
  go_upto_region 7 with ((with_reducible refine at_store (p := 4) rfl ?_); refine store_new rfl 31 _ _ Cm.Cmd.zero.cells (⟨v, [], [], [], Ml.zero, Rc.zero⟩ : Cm.Cmd).cells (by rfl) bb hbb (by rfl) (by rfl) (by kernel_rfl) (by rfl) (cmd_one _) ?_; clear z0; have z0 := Blk.cell HP.out.low.cmd 0 (.string (Cm.tx v)) rfl; have z1 := Blk.cell HP.out.low.cmd 1 (.string (Cm.tx arg)) rfl; have y1 := Blk.cell HP.out.pl 1 (.string ⟨#[]⟩) rfl; have f1 := Blk.free HP.out.pl 1)
  have HP2 : Aside (PrP w w.heap.size (⟨v, arg, lo, dm, ml, rc⟩ : Cm.Cmd) bb (⟨v, arg, [], [], Ml.zero, Rc.zero⟩ : Cm.Cmd) (W1.alloc (.cells ((⟨v, [], [], [], Ml.zero, Rc.zero⟩ : Cm.Cmd).cells.setIfInBounds 1 (.string (Cm.tx arg))) 31))) := ⟨SQ.out.alloc _, by have := SQ.out.sz; omega, by have := Blk.new (w := W1) ((⟨v, [], [], [], Ml.zero, Rc.zero⟩ : Cm.Cmd).cells.setIfInBounds 1 (.string (Cm.tx arg))) 31; rw [hbb] at this; exact (Eq.mp (congrArg (fun x => Blk (W1.alloc (.cells ((⟨v, [], [], [], Ml.zero, Rc.zero⟩ : Cm.Cmd).cells.setIfInBounds 1 (.string (Cm.tx arg))) 31)) bb x 31) (cmd_arg2 (⟨v, [], [], [], Ml.zero, Rc.zero⟩ : Cm.Cmd) arg)) this)⟩
  obtain ⟨W2, hW2⟩ : ∃ W, (W1.alloc (.cells ((⟨v, [], [], [], Ml.zero, Rc.zero⟩ : Cm.Cmd).cells.setIfInBounds 1 (.string (Cm.tx arg))) 31)) = W := ⟨_, rfl⟩
  rw [hW2] at HP2 ⊢
  clear HP z0 z1 y1 f1 hW2 SQ
  have z1 := Blk.cell HP2.out.low.cmd 1 (.string (Cm.tx arg)) rfl
  have hc := HC.out
  clear HC
  rcases hc with ⟨rfl, rfl, rfl⟩ | ⟨rfl, ⟨hpe, rfl, rfl⟩ | ⟨rfl, ⟨rfl, rfl, rfl⟩ | ⟨rfl, ⟨hln, rfl, rfl⟩ | ⟨hln, rfl, rfl⟩⟩⟩⟩
  all_goals
    have hS := HS.out
    clear HS
    rcases hS with ⟨ha, rfl⟩ | ⟨ha, rfl⟩
    all_goals
      try (have hln2 := hln; rw [ByteArray.size_append, ByteArray.size_append, show (⟨#[32]⟩ : ByteArray).size = 1 by rfl] at hln2; have hln3 := hln2; push_cast at hln3)
      go_wp2_with (first | (go_at_call 9; (with_reducible refine (hpa _ (HP2.out.lv hl)).mono ?_); rintro e w_ ⟨rfl, hb_⟩; replace HP2 := Aside.mk (HP2.out.next hb_); clear hb_; obtain ⟨b2, hb2⟩ : ∃ b, w_.heap.size = b := ⟨_, rfl⟩) | ((with_reducible refine at_store (p := 14) rfl ?_); refine store_new rfl 31 _ _ Cm.Cmd.zero.cells pc.cells (by rfl) b2 hb2 (by rfl) (by rfl) (by kernel_rfl) (by rfl) (cmd_one _) ?_; have B2 := Aside.mk (show Blk _ b2 pc.cells 31 from hb2 ▸ Blk.new _ _); replace HP2 := Aside.mk (HP2.out.alloc (.cells pc.cells 31)); clear hb2) | ((with_reducible refine at_dst (N := 44) rfl ?_); refine load_blk rfl 31 _ (by rfl) (w.heap.size) (by rfl) (⟨v, arg, lo, dm, ml, rc⟩ : Cm.Cmd).cells 31 _ HP2.out.low.cmd Tryz.underlying31 rfl (by kernel_rfl) ?_) | ((with_reducible refine at_dst (N := 45) rfl ?_); refine load_blk rfl 31 _ (by rfl) (bb) (by rfl) (⟨v, arg, [], [], Ml.zero, Rc.zero⟩ : Cm.Cmd).cells 31 _ HP2.out.pl Tryz.underlying31 rfl (by kernel_rfl) ?_) | ((with_reducible refine at_dst (N := 46) rfl ?_); refine step_value rfl (.bool _) (neq_as (⟨v, arg, lo, dm, ml, rc⟩ : Cm.Cmd) (⟨v, arg, [], [], Ml.zero, Rc.zero⟩ : Cm.Cmd) _ NQ.out _ _ _ _ _ _ (by rfl) (by rfl) (by rfl)) ?_) | ((with_reducible refine at_dst (N := 52) rfl ?_); refine load_blk_g b2 31 (by rfl) _ (by rfl) (by rfl) pc.cells 31 _ B2.out Tryz.underlying31 rfl (by kernel_rfl) ?_) | ((with_reducible refine at_dst (N := 53) rfl ?_); refine load_blk_g (w.heap.size) 31 (by rfl) _ (by rfl) (by rfl) (⟨v, arg, lo, dm, ml, rc⟩ : Cm.Cmd).cells 31 _ HP2.out.low.cmd Tryz.underlying31 rfl (by kernel_rfl) ?_) | ((with_reducible refine at_dst (N := 54) rfl ?_); refine step_value_g (by rfl) (.bool _) (neq_as pc (⟨v, arg, lo, dm, ml, rc⟩ : Cm.Cmd) _ NQ2.out _ _ _ _ _ _ (by rfl) (by rfl) (by rfl)) ?_))
      go_ret2
      exact ⟨rfl, HP2.out.low.low⟩
end Go.Proofs.YtllhbcpbihhdnaaGreatDoor
