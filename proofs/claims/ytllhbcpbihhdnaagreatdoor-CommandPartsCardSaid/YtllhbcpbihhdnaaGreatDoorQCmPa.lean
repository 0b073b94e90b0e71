/-
  Commands: Print (MAIL).
-/
import Derived.Test.YtllhbcpbihhdnaaGreatDoorQ5
set_option linter.unusedVariables false
set_option linter.unusedSimpArgs false
namespace Go.Proofs.YtllhbcpbihhdnaaGreatDoor
open Go.RowKit Go.Shelf Pm
set_option maxRecDepth 100000
set_option maxHeartbeats 16000000 in
theorem pm_all (arg lo dm : List UInt8) (ml : Ml) (rc : Rc) (pt wt : ByteArray) (r1 r2 : Int) (hpp : ∀ W, Calls Tryz.prog 26 #[.agg #[.string (Cm.tx lo), .string (Cm.tx dm)]] W fun e w' => e = .returned (.tuple #[.string pt, .int .i64 r1]) ∧ Below W.heap.size W w') (hpw : ∀ W, Lv W → Calls Tryz.prog 27 #[.agg ml.cells] W fun e w' => e = .returned (.tuple #[.string wt, .int .i64 r2]) ∧ Below W.heap.size W w') (hz1 : pt.size ≤ 100000) (hz2 : wt.size ≤ 100000) (res : ByteArray) (err : Int) (hc : (!(⟨Cm.vMAIL, arg, lo, dm, ml, rc⟩ : Cm.Cmd).eqb (⟨Cm.vMAIL, [], lo, dm, ml, Rc.zero⟩ : Cm.Cmd)) = true ∧ res = ⟨#[]⟩ ∧ err = 2 ∨ (!(⟨Cm.vMAIL, arg, lo, dm, ml, rc⟩ : Cm.Cmd).eqb (⟨Cm.vMAIL, [], lo, dm, ml, Rc.zero⟩ : Cm.Cmd)) = false ∧ (((Cm.tx dm).toList.isEmpty = true ∧ (Cm.tx lo).toList.isEmpty = false) ∧ res = ⟨#[]⟩ ∧ err = 2 ∨ (((Cm.tx dm).toList.isEmpty = false ∨ (Cm.tx dm).toList.isEmpty = true ∧ (Cm.tx lo).toList.isEmpty = true) ∧ (r1 != 0) = true ∧ res = ⟨#[]⟩ ∧ err = r1) ∨ (((Cm.tx dm).toList.isEmpty = false ∨ (Cm.tx dm).toList.isEmpty = true ∧ (Cm.tx lo).toList.isEmpty = true) ∧ r1 = 0 ∧ (r2 != 0) = true ∧ res = ⟨#[]⟩ ∧ err = r2) ∨ (((Cm.tx dm).toList.isEmpty = false ∨ (Cm.tx dm).toList.isEmpty = true ∧ (Cm.tx lo).toList.isEmpty = true) ∧ r1 = 0 ∧ r2 = 0 ∧ ∃ tt, (∀ W, Calls Tryz.prog 18 #[.string (⟨#[77, 65, 73, 76]⟩ ++ ⟨#[32, 70, 82, 79, 77, 58]⟩ ++ pt ++ ⟨#[32]⟩ ++ wt), .string ⟨#[32]⟩] W fun e w' => e = .returned (.string tt) ∧ w' = W) ∧ decide ((510 : Int) < (tt.size : Int)) = false ∧ res = tt ∧ err = 0) ∨ (((Cm.tx dm).toList.isEmpty = false ∨ (Cm.tx dm).toList.isEmpty = true ∧ (Cm.tx lo).toList.isEmpty = true) ∧ r1 = 0 ∧ r2 = 0 ∧ ∃ tt, (∀ W, Calls Tryz.prog 18 #[.string (⟨#[77, 65, 73, 76]⟩ ++ ⟨#[32, 70, 82, 79, 77, 58]⟩ ++ pt ++ ⟨#[32]⟩ ++ wt), .string ⟨#[32]⟩] W fun e w' => e = .returned (.string tt) ∧ w' = W) ∧ decide ((510 : Int) < (tt.size : Int)) = true ∧ res = ⟨#[]⟩ ∧ err = 3))) (w : World) (hl : Lv w) : Calls Tryz.prog 10 #[.agg (⟨Cm.vMAIL, arg, lo, dm, ml, rc⟩ : Cm.Cmd).cells] w fun e w' => e = .returned (.tuple #[.string res, .int .i64 err]) ∧ Below w.heap.size w w' := by
  have HC := Aside.mk hc
  clear hc
  have o1 : ¬ 9223372036854775807 < 10 + pt.size := by omega
  have o2 : ¬ 9223372036854775807 < 10 + pt.size + 1 := by omega
  have o3 : ¬ 9223372036854775807 < 10 + pt.size + 1 + wt.size := by omega
  have SP : Aside (PrS w w.heap.size (⟨Cm.vMAIL, arg, lo, dm, ml, rc⟩ : Cm.Cmd) (w.alloc (.cells (⟨Cm.vMAIL, arg, lo, dm, ml, rc⟩ : Cm.Cmd).cells 31))) := ⟨(Below.refl _ w).alloc (Nat.le_refl _) _, by simp, Blk.new _ _⟩
  have z0 := Blk.cell SP.out.cmd 0 (.string ⟨#[77, 65, 73, 76]⟩) rfl
  have hcl := fun b W hb => contains_lit ⟨#[77, 65, 73, 76]⟩ Cm.vMAIL rfl true (by decide) b W hb
  have HVB : Aside (Blk ((w.alloc (.cells (⟨Cm.vMAIL, arg, lo, dm, ml, rc⟩ : Cm.Cmd).cells 31)).alloc (.cells Cm.verbVals 9)).drew (w.heap.size + 1) Cm.verbVals 9) := ⟨by have := Blk.new (w := w.alloc (.cells (⟨Cm.vMAIL, arg, lo, dm, ml, rc⟩ : Cm.Cmd).cells 31)) Cm.verbVals 9; rw [World.size_alloc] at this; exact this⟩
  go_enter Tryz.func10, Tryz.ntmps10
  go_wp2_with fail
  go_region_held3 (fun w' => w'.cell? ⟨w.heap.size, 0, none⟩ = some (.string ⟨#[77, 65, 73, 76]⟩)) (first | go_keep | exact z0) (first | (go_at_call 16; (with_reducible refine (verbs_any _).mono ?_); rintro e w1 ⟨rfl, hw1⟩; subst hw1) | (go_at_call 25; (with_reducible refine (hcl (w.heap.size + 1) _ HVB.out).mono ?_); rintro e w2 ⟨rfl, hw2⟩; subst hw2))
  have SQ : Aside (PrS w w.heap.size (⟨Cm.vMAIL, arg, lo, dm, ml, rc⟩ : Cm.Cmd) ((w.alloc (.cells (⟨Cm.vMAIL, arg, lo, dm, ml, rc⟩ : Cm.Cmd).cells 31)).alloc (.cells Cm.verbVals 9)).drew) := ⟨(SP.out.alloc _).drew⟩
  obtain ⟨W1, hW1⟩ : ∃ W, ((w.alloc (.cells (⟨Cm.vMAIL, arg, lo, dm, ml, rc⟩ : Cm.Cmd).cells 31)).alloc (.cells Cm.verbVals 9)).drew = W := ⟨_, rfl⟩
  rw [hW1] at SQ ⊢
  clear SP HVB z0 hW1 hcl
  obtain ⟨bb, hbb⟩ : ∃ b, W1.heap.size = b := ⟨_, rfl⟩
  have z0 := Blk.cell SQ.out.cmd 0 (.string ⟨#[77, 65, 73, 76]⟩) rfl
  have HP : Aside (PrP w w.heap.size (⟨Cm.vMAIL, arg, lo, dm, ml, rc⟩ : Cm.Cmd) bb (⟨Cm.vMAIL, [], [], [], Ml.zero, Rc.zero⟩ : Cm.Cmd) (W1.alloc (.cells (⟨Cm.vMAIL, [], [], [], Ml.zero, Rc.zero⟩ : Cm.Cmd).cells 31))) := ⟨SQ.out.alloc _, by have := SQ.out.sz; omega, hbb ▸ Blk.new _ _⟩
  go_wp2_with ((with_reducible refine at_store (p := 4) rfl ?_); refine store_new rfl 31 _ _ Cm.Cmd.zero.cells (⟨Cm.vMAIL, [], [], [], Ml.zero, Rc.zero⟩ : Cm.Cmd).cells (by rfl) bb hbb (by rfl) (by rfl) (by kernel_rfl) (by rfl) (cmd_one _) ?_; clear z0; have z0 := Blk.cell HP.out.low.cmd 0 (.string ⟨#[77, 65, 73, 76]⟩) rfl)
  clear z0 SQ
  have HQ0 := Aside.mk HP.out.drew
  clear HP
  refine wp_region_held_drew (S := PrS w w.heap.size (⟨Cm.vMAIL, arg, lo, dm, ml, rc⟩ : Cm.Cmd)) (by kernel_rfl) HQ0.out.low (fun hS0_ => ?_)
  refine wpAnyH_take (i := 0) (oi := ⟨some 58, _, _, _, _, _⟩) (v := ?_) rfl (by kernel_rfl) (by kernel_rfl) (by kernel_rfl) (fun _ _ _ h => h) (Or.inl ⟨by rfl, ?_⟩) hS0_ ?_
  rotate_left
  · (intro w_ hSw_; first | (go_simp; done) | (go_simp; with_reducible rfl))
  try simp only [Act.put, List.setIfInBounds_toArray, List.set_cons_zero, List.set_cons_succ]
  refine' wpAnyH_take (i := 1) (oi := ⟨some 59, _, _, _, _, _⟩) (v := _) rfl (by kernel_rfl) (by kernel_rfl) (by kernel_rfl) (fun _ _ _ h => h) (yieldsIf_load_mid (by kernel_rfl) 23 _ (by rfl) (w.heap.size) 2 (by rfl) #[.string (Cm.tx lo), .string (Cm.tx dm)].toList _ (fun w_ h_ => blk_off (PrS.cmd h_) 2 #[.string (Cm.tx lo), .string (Cm.tx dm)] (by rfl)) Tryz.underlying23 rfl (by kernel_rfl)) hS0_ ?_
  try simp only [Act.put, List.setIfInBounds_toArray, List.set_cons_zero, List.set_cons_succ]
  refine wpAnyH_take (i := 2) (oi := ⟨some 60, _, _, _, _, _⟩) (v := ?_) rfl (by kernel_rfl) (by kernel_rfl) (by kernel_rfl) (fun _ _ _ h => h) (Or.inl ⟨by rfl, ?_⟩) hS0_ ?_
  rotate_left
  · (intro w_ hSw_; first | (go_simp; done) | (go_simp; with_reducible rfl))
  try simp only [Act.put, List.setIfInBounds_toArray, List.set_cons_zero, List.set_cons_succ]
  refine' wpAnyH_take (i := 3) (oi := ⟨some 61, _, _, _, _, _⟩) (v := _) rfl (by kernel_rfl) (by kernel_rfl) (by kernel_rfl) (fun _ _ _ h => h) (yieldsIf_load_mid (by kernel_rfl) 27 _ (by rfl) (w.heap.size) 4 (by rfl) ml.cells.toList _ (fun w_ h_ => blk_off (PrS.cmd h_) 4 ml.cells (by rfl)) Tryz.underlying27 rfl (by kernel_rfl)) hS0_ ?_
  try simp only [Act.put, List.setIfInBounds_toArray, List.set_cons_zero, List.set_cons_succ]
  refine wpAnyH_take (i := 4) (oi := ⟨some 62, _, _, _, _, _⟩) (v := ?_) rfl (by kernel_rfl) (by kernel_rfl) (by kernel_rfl) (fun _ _ _ h => h) (Or.inl ⟨by rfl, ?_⟩) hS0_ ?_
  rotate_left
  · (intro w_ hSw_; first | (go_simp; done) | (go_simp; with_reducible rfl))
  try simp only [Act.put, List.setIfInBounds_toArray, List.set_cons_zero, List.set_cons_succ]
  refine wpAnyH_ready (rs := [5]) (by kernel_rfl) (by simp) ?_
  refine AllReadyH.cons rfl (fun K hK => ?_) ?_
  ·
    refine ev_store (by kernel_rfl) 23 _ _ (by rfl) bb 2 (by rfl) (⟨Cm.vMAIL, [], [], [], Ml.zero, Rc.zero⟩ : Cm.Cmd).cells #[.string (Cm.tx lo), .string (Cm.tx dm)] 31 HQ0.out.pl (by rfl) (show 2 + 2 ≤ 21 by decide) (by kernel_rfl) (by simp [Value.oneCell']) ?_
    intro w_1 hb_ hc_
    have HQ1 : Aside (PrP w w.heap.size (⟨Cm.vMAIL, arg, lo, dm, ml, rc⟩ : Cm.Cmd) bb (⟨Cm.vMAIL, [], lo, dm, Ml.zero, Rc.zero⟩ : Cm.Cmd) w_1) := ⟨HQ0.out.chg (Eq.mp (congrArg (fun x => Blk w_1 bb x 31) (cmd_pth2 (⟨Cm.vMAIL, [], [], [], Ml.zero, Rc.zero⟩ : Cm.Cmd) lo dm)) hb_) hc_⟩
    clear hb_ hc_
    refine hK.out _ _ ?_ (fun hS1_ => ?_)
    · exact HQ1.out.low
    clear hK
    as_aux_lemma =>
      refine wpAnyH_take (i := 6) (oi := ⟨some 63, _, _, _, _, _⟩) (v := ?_) rfl (by kernel_rfl) (by kernel_rfl) (by kernel_rfl) (fun _ _ _ h => h) (Or.inl ⟨by rfl, ?_⟩) hS1_ ?_
      rotate_left
      · (intro w_ hSw_; first | (go_simp; done) | (go_simp; with_reducible rfl))
      try simp only [Act.put, List.setIfInBounds_toArray, List.set_cons_zero, List.set_cons_succ]
      refine wpAnyH_ready (rs := [7]) (by kernel_rfl) (by simp) ?_
      refine AllReadyH.cons rfl (fun K hK => ?_) ?_
      ·
        refine ev_store (by kernel_rfl) 27 _ _ (by rfl) bb 4 (by rfl) (⟨Cm.vMAIL, [], lo, dm, Ml.zero, Rc.zero⟩ : Cm.Cmd).cells ml.cells 31 HQ1.out.pl (by rfl) (show 4 + 14 ≤ 21 by decide) (by kernel_rfl) (ml_ones _) ?_
        intro w_2 hb_ hc_
        have HQ2 : Aside (PrP w w.heap.size (⟨Cm.vMAIL, arg, lo, dm, ml, rc⟩ : Cm.Cmd) bb (⟨Cm.vMAIL, [], lo, dm, ml, Rc.zero⟩ : Cm.Cmd) w_2) := ⟨HQ1.out.chg (Eq.mp (congrArg (fun x => Blk w_2 bb x 31) (cmd_ml (⟨Cm.vMAIL, [], lo, dm, Ml.zero, Rc.zero⟩ : Cm.Cmd) ml)) hb_) hc_⟩
        clear hb_ hc_
        refine hK.out _ _ ?_ (fun hS2_ => ?_)
        · exact HQ2.out.low
        clear hK
        as_aux_lemma =>
          refine wpAnyH_done (by kernel_rfl) ?_ _
          have HP := Aside.mk HQ2.out
          clear HQ0 HQ1 HQ2 hS0_ hS1_ hS2_
          obtain ⟨nq, NQ, hc⟩ : ∃ nq, Aside ((!(⟨Cm.vMAIL, arg, lo, dm, ml, rc⟩ : Cm.Cmd).eqb (⟨Cm.vMAIL, [], lo, dm, ml, Rc.zero⟩ : Cm.Cmd)) = nq) ∧ (nq = true ∧ res = ⟨#[]⟩ ∧ err = 2 ∨ nq = false ∧ (((Cm.tx dm).toList.isEmpty = true ∧ (Cm.tx lo).toList.isEmpty = false) ∧ res = ⟨#[]⟩ ∧ err = 2 ∨ (((Cm.tx dm).toList.isEmpty = false ∨ (Cm.tx dm).toList.isEmpty = true ∧ (Cm.tx lo).toList.isEmpty = true) ∧ (r1 != 0) = true ∧ res = ⟨#[]⟩ ∧ err = r1) ∨ (((Cm.tx dm).toList.isEmpty = false ∨ (Cm.tx dm).toList.isEmpty = true ∧ (Cm.tx lo).toList.isEmpty = true) ∧ r1 = 0 ∧ (r2 != 0) = true ∧ res = ⟨#[]⟩ ∧ err = r2) ∨ (((Cm.tx dm).toList.isEmpty = false ∨ (Cm.tx dm).toList.isEmpty = true ∧ (Cm.tx lo).toList.isEmpty = true) ∧ r1 = 0 ∧ r2 = 0 ∧ ∃ tt, (∀ W, Calls Tryz.prog 18 #[.string (⟨#[77, 65, 73, 76]⟩ ++ ⟨#[32, 70, 82, 79, 77, 58]⟩ ++ pt ++ ⟨#[32]⟩ ++ wt), .string ⟨#[32]⟩] W fun e w' => e = .returned (.string tt) ∧ w' = W) ∧ decide ((510 : Int) < (tt.size : Int)) = false ∧ res = tt ∧ err = 0) ∨ (((Cm.tx dm).toList.isEmpty = false ∨ (Cm.tx dm).toList.isEmpty = true ∧ (Cm.tx lo).toList.isEmpty = true) ∧ r1 = 0 ∧ r2 = 0 ∧ ∃ tt, (∀ W, Calls Tryz.prog 18 #[.string (⟨#[77, 65, 73, 76]⟩ ++ ⟨#[32, 70, 82, 79, 77, 58]⟩ ++ pt ++ ⟨#[32]⟩ ++ wt), .string ⟨#[32]⟩] W fun e w' => e = .returned (.string tt) ∧ w' = W) ∧ decide ((510 : Int) < (tt.size : Int)) = true ∧ res = ⟨#[]⟩ ∧ err = 3))) := by
            rcases HC.out with ⟨h1, h2⟩ | ⟨h1, h2⟩
            · exact ⟨true, ⟨h1⟩, .inl ⟨rfl, h2⟩⟩
            · exact ⟨false, ⟨h1⟩, .inr ⟨rfl, h2⟩⟩
          clear HC
          rcases hc with ⟨rfl, rfl, rfl⟩ | ⟨rfl, ⟨⟨hd, hl0⟩, rfl, rfl⟩ | ⟨hd | ⟨hd, hl0⟩, hr1, rfl, rfl⟩ | ⟨hd | ⟨hd, hl0⟩, rfl, hr2, rfl, rfl⟩ | ⟨hd | ⟨hd, hl0⟩, rfl, rfl, tt, htr, hln, rfl, rfl⟩ | ⟨hd | ⟨hd, hl0⟩, rfl, rfl, tt, htr, hln, rfl, rfl⟩⟩
          all_goals
            go_wp2_with (first | ((with_reducible refine at_dst (N := 66) rfl ?_); refine load_off rfl 23 _ (by rfl) (w.heap.size) 2 (by rfl) (⟨Cm.vMAIL, arg, lo, dm, ml, rc⟩ : Cm.Cmd).cells 31 HP.out.low.cmd #[.string (Cm.tx lo), .string (Cm.tx dm)] (by rfl) _ Tryz.underlying23 rfl (by kernel_rfl) ?_) | ((with_reducible refine at_dst (N := 72) rfl ?_); refine load_off rfl 27 _ (by rfl) (w.heap.size) 4 (by rfl) (⟨Cm.vMAIL, arg, lo, dm, ml, rc⟩ : Cm.Cmd).cells 31 HP.out.low.cmd ml.cells (by rfl) _ Tryz.underlying27 rfl (by kernel_rfl) ?_) | ((with_reducible refine at_dst (N := 77) rfl ?_); refine load_blk rfl 31 _ (by rfl) (w.heap.size) (by rfl) (⟨Cm.vMAIL, arg, lo, dm, ml, rc⟩ : Cm.Cmd).cells 31 _ HP.out.low.cmd Tryz.underlying31 rfl (by kernel_rfl) ?_) | ((with_reducible refine at_dst (N := 78) rfl ?_); refine load_blk rfl 31 _ (by rfl) (bb) (by rfl) (⟨Cm.vMAIL, [], lo, dm, ml, Rc.zero⟩ : Cm.Cmd).cells 31 _ HP.out.pl Tryz.underlying31 rfl (by kernel_rfl) ?_) | (go_at_call 26; (with_reducible refine (hpp _).mono ?_); rintro e w_ ⟨rfl, hb_⟩; replace HP := Aside.mk (HP.out.next hb_); clear hb_) | (go_at_call 27; (with_reducible refine (hpw _ (HP.out.lv hl)).mono ?_); rintro e w_ ⟨rfl, hb_⟩; replace HP := Aside.mk (HP.out.next hb_); clear hb_; have z2 := Blk.cell HP.out.low.cmd 2 (.string (Cm.tx lo)) rfl; have z3 := Blk.cell HP.out.low.cmd 3 (.string (Cm.tx dm)) rfl) | (go_at_call 18; (with_reducible refine (htr _).mono ?_); rintro e w_ ⟨rfl, hw_⟩; subst hw_) | ((with_reducible refine at_dst (N := 79) rfl ?_); refine step_value rfl (.bool _) (neq_as (⟨Cm.vMAIL, arg, lo, dm, ml, rc⟩ : Cm.Cmd) (⟨Cm.vMAIL, [], lo, dm, ml, Rc.zero⟩ : Cm.Cmd) _ NQ.out _ _ _ _ _ _ (by rfl) (by rfl) (by rfl)) ?_))
            go_ret2
            exact ⟨rfl, HP.out.low.low⟩
      exact AllReadyH.nil
  exact AllReadyH.nil
end Go.Proofs.YtllhbcpbihhdnaaGreatDoor
