/-
  CommandLetters: its walk.
-/
import Derived.Test.YtllhbcpbihhdnaaGreatDoorQCmSm
set_option linter.unusedVariables false
set_option linter.unusedSimpArgs false
namespace Go.Proofs.YtllhbcpbihhdnaaGreatDoor
open Go.RowKit Go.Shelf Pm
set_option maxRecDepth 100000
/-- The bytes of a list, in a block. -/
def Byts (q : Nat) (bs : List UInt8) (W : World) : Prop := ∀ j (hj : j < bs.length), W.cell? ⟨q, j, none⟩ = some (.int .u8 (bs[j].toNat : Int)) ∧ W.frozen? ⟨q, j, none⟩ = false
theorem Byts.next {q : Nat} {bs : List UInt8} {W W' : World} (h : Byts q bs W) (hb : Below W.heap.size W W') : Byts q bs W' := fun j hj => ⟨cell_next hb (h j hj).1, free_next hb (h j hj).1 (h j hj).2⟩
theorem Byts.up {q : Nat} {P Y : List UInt8} {y z : UInt8} {W : World} (h : Byts q (P ++ y :: Y) W) {n : Int} (hn : n = (z.toNat : Int)) {k : Nat} (hk : k = P.length) : Byts q (P ++ z :: Y) (W.setCell ⟨q, k, none⟩ (.int .u8 n)) := by
  subst hk hn
  have h0 := (h P.length (by simp)).1
  intro j hj
  by_cases e : j = P.length
  · subst e
    refine ⟨?_, by simpa using (h P.length (by simp)).2⟩
    rw [World.cell?_setCell_same _ _ _ h0]
    simp
  · have h1 := h j (by simpa using hj)
    refine ⟨?_, by simpa using h1.2⟩
    rw [World.cell?_setCell_other _ _ _ _ (by intro q; injection q; omega), h1.1]
    congr 3
    rcases Nat.lt_or_ge j P.length with hl | hl
    · rw [List.getElem_append_left hl, List.getElem_append_left hl]
    · rw [List.getElem_append_right hl, List.getElem_append_right hl]
      obtain ⟨m, hm⟩ : ∃ m, j - P.length = m + 1 := ⟨j - P.length - 1, by omega⟩
      simp only [hm, List.getElem_cons_succ]
theorem Byts.at {q : Nat} {P Y : List UInt8} {y : UInt8} {W : World} (h : Byts q (P ++ y :: Y) W) {k : Nat} (hk : k = P.length) : W.cell? ⟨q, k, none⟩ = some (.int .u8 (y.toNat : Int)) ∧ W.frozen? ⟨q, k, none⟩ = false := by
  subst hk
  have := h P.length (by simp)
  simpa using this
structure LtS (w : World) (H : Nat) (c : Cm.Cmd) (q : Nat) (bs : List UInt8) (W : World) : Prop where
  low : Below w.heap.size w W
  cmd : Blk W H c.cells 31
  byt : Byts q bs W
  ne : H ≠ q
  hq : w.heap.size ≤ q
theorem LtS.next {w : World} {H : Nat} {c : Cm.Cmd} {q : Nat} {bs : List UInt8} {W W' : World} (h : LtS w H c q bs W) (hb : Below W.heap.size W W') : LtS w H c q bs W' := ⟨h.low.trans (hb.mono h.low.size), h.cmd.below hb, h.byt.next hb, h.ne, h.hq⟩
theorem LtS.up {w : World} {H : Nat} {c : Cm.Cmd} {q : Nat} {P Y : List UInt8} {y z : UInt8} {W : World} (h : LtS w H c q (P ++ y :: Y) W) {n : Int} (hn : n = (z.toNat : Int)) {k : Nat} (hk : k = P.length) : LtS w H c q (P ++ z :: Y) (W.setCell ⟨q, k, none⟩ (.int .u8 n)) :=
  ⟨h.low.setCell (p := ⟨q, k, none⟩) h.hq _, h.cmd.setOther _ h.ne, h.byt.up hn hk, h.ne, h.hq⟩
theorem LtS.conv {w : World} {H : Nat} {c : Cm.Cmd} {q : Nat} {bs : List UInt8} {W : World} (h : LtS w H c q bs W) (n : Nat) (hn : bs.length = n) (cap : Nat) : (convert 40 9 (.slice (some ⟨q, 0, none⟩) n cap)).run Tryz.prog W = .ok (.string (Cm.tx bs)) W := by
  subst hn
  exact run_convert_bytes_back W 40 9 5 ⟨q, 0, none⟩ cap bs Tryz.underlying40 Tryz.underlying5 Tryz.underlying9 (fun j hj => by
    have h1 := (h.byt j hj).1
    have e : (⟨q, 0, none⟩ : Addr).add j = ⟨q, j, none⟩ := by
      unfold Addr.add
      by_cases h0 : j = 0
      · subst h0; simp
      · simp [h0]
    rw [e]
    exact h1)
theorem up32 {y : UInt8} (h : y.toNat < 100) : ((y + 32 : UInt8).toNat : Int) = (y.toNat : Int) + 32 := by
  rw [UInt8.toNat_add]
  have : (32 : UInt8).toNat = 32 := rfl
  rw [this]
  omega
theorem verb_small : ∀ v ∈ Cm.verbs, ∀ x ∈ v, x.toNat < 100 := by decide
/-- What a line in capital, and in small letters is. -/
theorem line_low {c : Cm.Cmd} (h : (Cm.line c).2 = 0) : ∃ t, (Cm.line c).1 = c.verb ++ t ∧
    (((c.verb = Cm.vMAIL ∨ c.verb = Cm.vRCPT) ∧ ∃ F r, t = 32 :: (F ++ 58 :: r) ∧ (∀ x ∈ F, x.toNat < 100 ∧ x ≠ 58) ∧ Cm.lowered c = c.verb.map (· + 32) ++ 32 :: (F.map (· + 32) ++ 58 :: r)) ∨
     ((c.verb ≠ Cm.vMAIL ∧ c.verb ≠ Cm.vRCPT) ∧ Cm.lowered c = c.verb.map (· + 32) ++ t)) := by
  obtain ⟨hv, h1 | h1 | h1⟩ := Cm.line_cases h
  · obtain ⟨k1, k2, k3, k4, k5, k6, k7⟩ := h1
    refine ⟨32 :: (Cm.kFrom ++ Cm.plain (Pt.text c.lo c.dm) c.ml.text.data.toList), by rw [k7, k1], .inl ⟨.inl k1, [70, 82, 79, 77], Cm.plain (Pt.text c.lo c.dm) c.ml.text.data.toList, rfl, by decide, ?_⟩⟩
    unfold Cm.lowered
    rw [k7, if_pos k1]
    rfl
  · obtain ⟨k1, k2, k3, k4, k5, k6, k7⟩ := h1
    refine ⟨32 :: (Cm.kTo ++ Cm.plain (Pt.text c.lo c.dm) c.rc.text.data.toList), by rw [k7, k1], .inl ⟨.inr k1, [84, 79], Cm.plain (Pt.text c.lo c.dm) c.rc.text.data.toList, rfl, by decide, ?_⟩⟩
    unfold Cm.lowered
    rw [k7, k1, if_neg (by decide), if_pos rfl]
    rfl
  · obtain ⟨k1, k2, k3, k4, k5, k6, k7, k8⟩ := h1
    refine ⟨if c.arg = [] then [] else 32 :: c.arg, k8, .inr ⟨⟨k1, k2⟩, ?_⟩⟩
    unfold Cm.lowered
    rw [if_neg k1, if_neg k2, k8, ← (Cm.verb_facts _ hv).2.2.1, List.drop_left]
set_option maxHeartbeats 4000000 in
theorem let_early (c : Cm.Cmd) (hsm : ∀ W, Calls Tryz.prog 8 #[.agg c.cells] W fun e w' => e = .returned (.bool false) ∧ Below W.heap.size W w') (w : World) (hl : Lv w) : Calls Tryz.prog 4 #[.agg c.cells] w fun e w' => e = .returned (.bool true) ∧ Below w.heap.size w w' := by
  obtain ⟨H, hH⟩ : ∃ H, w.heap.size = H := ⟨_, rfl⟩
  have M : Aside (Mine w [(H, c.cells, 31)] (w.alloc (.cells c.cells 31))) := ⟨Mine.new (Mine.start w) c.cells 31 H hH⟩
  go_enter Tryz.func4, Tryz.ntmps4
  rw [hH]
  go_wp2_with (first | (go_at_call 7; (with_reducible refine (awake_any _ (hl.next M.out.low)).mono ?_); rintro e w_ ⟨rfl, hb_⟩; replace M := Aside.mk (M.out.next hb_); clear hb_) | (go_at_call 8; (with_reducible refine (hsm _).mono ?_); rintro e w_ ⟨rfl, hb_⟩; replace M := Aside.mk (M.out.next hb_); clear hb_) | ((with_reducible refine at_dst (N := 12) rfl ?_); refine load_blk rfl 31 _ (by rfl) H (by rfl) c.cells 31 _ (M.out.own (H, c.cells, 31) (List.mem_cons_self ..)).2 Tryz.underlying31 rfl (by kernel_rfl) ?_) | ((with_reducible refine at_dst (N := 16) rfl ?_); refine load_blk rfl 31 _ (by rfl) H (by rfl) c.cells 31 _ (M.out.own (H, c.cells, 31) (List.mem_cons_self ..)).2 Tryz.underlying31 rfl (by kernel_rfl) ?_) | (go_at_call 10; (with_reducible refine (hpc _ (hl.next M.out.low)).mono ?_); rintro e w9 ⟨rfl, hb_⟩; replace M := Aside.mk (M.out.next hb_); clear hb_))
  go_ret
  exact ⟨rfl, by have L := M.out.low; rw [hH] at L; exact L⟩
set_option maxHeartbeats 4000000 in
theorem let_bad (c : Cm.Cmd) (hf : Cm.Fits c) (hsm : ∀ W, Calls Tryz.prog 8 #[.agg c.cells] W fun e w' => e = .returned (.bool true) ∧ Below W.heap.size W w') (ec : Int) (pc : Cm.print c = ([], ec)) (oc : ec ≠ 0) (w : World) (hl : Lv w) : Calls Tryz.prog 4 #[.agg c.cells] w fun e w' => e = .returned (.bool true) ∧ Below w.heap.size w w' := by
  have hpc := fun W (hW : Lv W) => commandPrint_any c hf W hW
  rw [pc] at hpc
  dsimp only at hpc
  have bc : (ec != 0) = true := by simpa using oc
  clear hf pc oc
  obtain ⟨H, hH⟩ : ∃ H, w.heap.size = H := ⟨_, rfl⟩
  have M : Aside (Mine w [(H, c.cells, 31)] (w.alloc (.cells c.cells 31))) := ⟨Mine.new (Mine.start w) c.cells 31 H hH⟩
  go_enter Tryz.func4, Tryz.ntmps4
  rw [hH]
  go_wp2_with (first | (go_at_call 7; (with_reducible refine (awake_any _ (hl.next M.out.low)).mono ?_); rintro e w_ ⟨rfl, hb_⟩; replace M := Aside.mk (M.out.next hb_); clear hb_) | (go_at_call 8; (with_reducible refine (hsm _).mono ?_); rintro e w_ ⟨rfl, hb_⟩; replace M := Aside.mk (M.out.next hb_); clear hb_) | ((with_reducible refine at_dst (N := 12) rfl ?_); refine load_blk rfl 31 _ (by rfl) H (by rfl) c.cells 31 _ (M.out.own (H, c.cells, 31) (List.mem_cons_self ..)).2 Tryz.underlying31 rfl (by kernel_rfl) ?_) | ((with_reducible refine at_dst (N := 16) rfl ?_); refine load_blk rfl 31 _ (by rfl) H (by rfl) c.cells 31 _ (M.out.own (H, c.cells, 31) (List.mem_cons_self ..)).2 Tryz.underlying31 rfl (by kernel_rfl) ?_) | (go_at_call 10; (with_reducible refine (hpc _ (hl.next M.out.low)).mono ?_); rintro e w9 ⟨rfl, hb_⟩; replace M := Aside.mk (M.out.next hb_); clear hb_))
  go_ret
  exact ⟨by show Ending.returned (.bool (Cm.tx []).toList.isEmpty) = _; rw [tx_empty]; rfl, by have L := M.out.low; rw [hH] at L; exact L⟩
set_option maxHeartbeats 16000000 in
theorem let_main (c : Cm.Cmd) (hf : Cm.Fits c) (hsm : ∀ W, Calls Tryz.prog 8 #[.agg c.cells] W fun e w' => e = .returned (.bool true) ∧ Below W.heap.size W w') (hv : c.verb ∈ Cm.verbs) (t low : List UInt8) (pc : Cm.print c = (c.verb ++ t, 0)) (hln : (c.verb ++ t).length ≤ 510)
    (bm br : Bool) (hbm : ((Cm.tx c.verb).toList == [77, 65, 73, 76]) = bm) (hbr : ((Cm.tx c.verb).toList == [82, 67, 80, 84]) = br)
    (hc : ((bm = true ∨ bm = false ∧ br = true) ∧ ∃ F r, t = 32 :: (F ++ 58 :: r) ∧ (∀ x ∈ F, x.toNat < 100 ∧ x ≠ 58) ∧ low = c.verb.map (· + 32) ++ 32 :: (F.map (· + 32) ++ 58 :: r)) ∨ ((bm = false ∧ br = false) ∧ low = c.verb.map (· + 32) ++ t))
    (ql : Cm.parse low = (c, 0)) (vl : Cm.verb low = c.verb) (w : World) (hl : Lv w) : Calls Tryz.prog 4 #[.agg c.cells] w fun e w' => e = .returned (.bool true) ∧ Below w.heap.size w w' := by
  have hpc := fun W (hW : Lv W) => commandPrint_any c hf W hW
  rw [pc] at hpc
  dsimp only at hpc
  obtain ⟨n, hn⟩ : ∃ n, (c.verb ++ t).length = n := ⟨_, rfl⟩
  have hlow : low.length = n := by
    rcases hc with ⟨_, F, r, ht, _, h⟩ | ⟨_, h⟩
    · rw [h, ← hn, ht]; simp
    · rw [h, ← hn]; simp
  have hv4 : c.verb.length = 4 := (Cm.verb_facts _ hv).2.2.1
  have hvz := Cm.tx_size c.verb
  have hvs := Aside.mk (verb_small _ hv)
  have hpl := fun W (hW : Lv W) => commandParse_any (Cm.tx low) (by rw [Cm.tx_size]; omega) W hW
  have hvl := fun W (hW : Lv W) => verb_any (Cm.tx low) (by rw [Cm.tx_size]; omega) W hW
  rw [Cm.tx_data, ql] at hpl
  rw [Cm.tx_data, vl] at hvl
  dsimp only at hpl
  have hsn : (Cm.tx (c.verb ++ t)).size = n := by rw [Cm.tx_size, hn]
  have kb := fun W => Lib.run_convert_string_bytes (P := Tryz.prog) W 9 40 5 (Cm.tx (c.verb ++ t)) Tryz.underlying9 Tryz.underlying40 Tryz.underlying5
  rw [hsn] at kb
  have HCA := Aside.mk hc
  have HN := Aside.mk hn
  have HL4 := Aside.mk hv4
  clear hf pc ql vl hc hv
  obtain ⟨H, hH⟩ : ∃ H, w.heap.size = H := ⟨_, rfl⟩
  have M : Aside (Mine w [(H, c.cells, 31)] (w.alloc (.cells c.cells 31))) := ⟨Mine.new (Mine.start w) c.cells 31 H hH⟩
  go_enter Tryz.func4, Tryz.ntmps4
  rw [hH]
  go_wp2_with (first | (go_at_call 7; (with_reducible refine (awake_any _ (hl.next M.out.low)).mono ?_); rintro e w_ ⟨rfl, hb_⟩; replace M := Aside.mk (M.out.next hb_); clear hb_) | (go_at_call 8; (with_reducible refine (hsm _).mono ?_); rintro e w_ ⟨rfl, hb_⟩; replace M := Aside.mk (M.out.next hb_); clear hb_) | ((with_reducible refine at_dst (N := 12) rfl ?_); refine load_blk rfl 31 _ (by rfl) H (by rfl) c.cells 31 _ (M.out.own (H, c.cells, 31) (List.mem_cons_self ..)).2 Tryz.underlying31 rfl (by kernel_rfl) ?_) | ((with_reducible refine at_dst (N := 16) rfl ?_); refine load_blk rfl 31 _ (by rfl) H (by rfl) c.cells 31 _ (M.out.own (H, c.cells, 31) (List.mem_cons_self ..)).2 Tryz.underlying31 rfl (by kernel_rfl) ?_) | (go_at_call 10; (with_reducible refine (hpc _ (hl.next M.out.low)).mono ?_); rintro e w9 ⟨rfl, hb_⟩; replace M := Aside.mk (M.out.next hb_); clear hb_))
  obtain ⟨q, hq⟩ : ∃ q, w9.heap.size = q := ⟨_, rfl⟩
  have HB := M.out.own (H, c.cells, 31) (List.mem_cons_self ..)
  have S : Aside (LtS w H c q (c.verb ++ t) (Lib.bytesWorld w9 5 (Cm.tx (c.verb ++ t)))) := ⟨by
    have hbw : Below w9.heap.size w9 (Lib.bytesWorld w9 5 (Cm.tx (c.verb ++ t))) := ⟨rfl, rfl, rfl, by rw [Lib.bytesWorld_size]; omega, fun k hk => Lib.bytesWorld_at_old w9 _ _ k hk⟩
    refine ⟨M.out.low.trans (hbw.mono M.out.low.size), HB.2.below hbw, fun j hj => ?_, by have := HB.2.lt; omega, by have := M.out.low.size; omega⟩
    have hj2 : j < (Cm.tx (c.verb ++ t)).size := by rw [Cm.tx_size]; exact hj
    rw [← hq]
    refine ⟨?_, bytes_free w9 _ _ j hj2⟩
    rw [Lib.bytesWorld_cell _ _ _ _ hj2, Cm.tx_data]
    simp [List.getD_eq_getElem?_getD, List.getElem?_eq_getElem hj]⟩
  rw [hq]
  obtain ⟨cap, hcap⟩ : ∃ k, grownCap w9 n 0 5 = k := ⟨_, rfl⟩
  rw [hcap]
  obtain ⟨W9, hW9⟩ : ∃ W, Lib.bytesWorld w9 5 (Cm.tx (c.verb ++ t)) = W := ⟨_, rfl⟩
  rw [hW9] at S ⊢
  clear hW9 HB M hq hcap kb
  have hHw := hH
  clear hH
  go_loopw [6] (fun i wr => ∃ X Y, c.verb = X ++ Y ∧ i = .int .i64 X.length ∧ LtS w H c q (X.map (· + 32) ++ (Y ++ t)) wr) (fun i _ => 4 - (intOf i).toNat)
  case atStart => exact ⟨[], c.verb, rfl, rfl, S.out⟩
  case round =>
    clear S
    obtain ⟨X, Y, hXY, rfl, hS⟩ := hrel
    have S := Aside.mk hS
    have hXl : X.length + Y.length = 4 := by rw [← HL4.out, hXY]; simp
    have HXY := Aside.mk hXY
    clear hS hXY
    have z0 := Blk.cell S.out.cmd 0 (.string (Cm.tx c.verb)) rfl
    have hn4 : 4 ≤ n := by rw [← HN.out]; have := HL4.out; simp; omega
    cases Y with
    | cons y Y =>
      have hy : y.toNat < 100 := hvs.out y (by rw [HXY.out]; simp)
      have hu := up32 hy
      simp only [List.length_cons] at hXl
      obtain ⟨g1, g2⟩ := S.out.byt.at (k := X.length) (y := y) (P := X.map (· + 32)) (Y := Y ++ t) (by simp)
      have e1 : decide ((X.length : Int) < (n : Int)) = true := decide_eq_true (by omega)
      have e2 : decide ((X.length : Int) < ((Cm.tx c.verb).size : Int)) = true := decide_eq_true (by omega)
      have hw : IntKind.u8.wrap ((y.toNat : Int) + 32) = (y.toNat : Int) + 32 := IntWalk.u8_in _ (by omega)
      go_wp2
      go_roundw
      case rel => exact ⟨X ++ [y], Y, by rw [HXY.out]; simp, by simp, by
        have := S.out.up (z := y + 32) (n := (y.toNat : Int) + 32) hu.symm (k := X.length) (by simp)
        simpa using this⟩
      case measure => first | (simp [intOf]; done) | (simp [intOf]; omega)
    | nil =>
      have hX : X.length = 4 := by simpa using hXl
      have hXv : X = c.verb := by rw [HXY.out]; simp
      rw [hXv] at S
      have hA := S.out
      rw [List.nil_append] at hA
      replace S := Aside.mk hA
      clear hA
      have e1 : decide ((X.length : Int) < ((Cm.tx c.verb).size : Int)) = false := decide_eq_false (by omega)
      have e3 : decide ((X.length : Int) < (n : Int)) = decide ((X.length : Int) < (n : Int)) := rfl
      clear hXv HXY e3
      by_cases hlt : (X.length : Int) < (n : Int)
      all_goals
        rcases HCA.out with ⟨hmm, F, r, rfl, hF, hlo⟩ | ⟨⟨rfl, rfl⟩, hlo⟩
        · have HF := Aside.mk hF
          have HLO := Aside.mk hlo
          clear hF hlo
          rcases hmm with rfl | ⟨rfl, rfl⟩
          all_goals
            go_wp2
            go_loopw [7] (fun i wr => ∃ (X Y : List UInt8) (k : Nat), F = X ++ Y ∧ k = 5 + X.length ∧ i = .int .i64 k ∧ LtS w H c q ((c.verb.map (· + 32) ++ 32 :: X.map (· + 32)) ++ (Y ++ 58 :: r)) wr) (fun i _ => n - (intOf i).toNat)
            case atStart => exact ⟨[], F, 5, rfl, rfl, rfl, by simpa using S.out⟩
            case round =>
              clear S z0
              obtain ⟨X2, Y2, k, hXY, hk, rfl, hS⟩ := hrel
              have S := Aside.mk hS
              have hnn : n = 6 + (X2.length + Y2.length) + r.length := by rw [← HN.out, hXY]; have := HL4.out; simp; omega
              have hP : 5 + X2.length = (c.verb.map (· + 32) ++ 32 :: X2.map (· + 32)).length := by have := HL4.out; simp; omega
              have HXY := Aside.mk hXY
              clear hS hXY
              have f1 : decide ((k : Int) < (n : Int)) = true := decide_eq_true (by omega)
              have hkn : k < n := by omega
              rw [← hk] at hP
              have HKX := Aside.mk hk
              have HPA := Aside.mk hP
              clear hk hP hnn
              cases Y2 with
              | cons y Y2 =>
                obtain ⟨hy, hy2⟩ := HF.out y (by rw [HXY.out]; simp)
                have hu := up32 hy
                obtain ⟨g1, g2⟩ := S.out.byt.at (k := k) (y := y) (Y := Y2 ++ 58 :: r) HPA.out
                have b58 : ((y.toNat : Int) == 58) = false := u8_ne (c := y) (d := 58) hy2
                have b58' : ((y.toNat : Int) != 58) = true := by simp only [bne, b58]; rfl
                have hw : IntKind.u8.wrap ((y.toNat : Int) + 32) = (y.toNat : Int) + 32 := IntWalk.u8_in _ (by omega)
                go_wp2
                go_roundw
                case rel => exact ⟨X2 ++ [y], Y2, k + 1, by rw [HXY.out]; simp, by rw [HKX.out]; simp; omega, by go_num, by
                  have := S.out.up (z := y + 32) (n := (y.toNat : Int) + 32) hu.symm (k := k) HPA.out
                  simpa using this⟩
                case measure => first | (simp [intOf]; done) | (simp [intOf]; omega)
              | nil =>
                have hXF : X2 = F := by rw [HXY.out]; simp
                obtain ⟨g1, g2⟩ := S.out.byt.at (k := k) (y := 58) (Y := r) HPA.out
                subst hXF
                have hA : LtS w H c q low wr := by rw [HLO.out]; simpa using S.out
                replace S := Aside.mk hA
                clear hA HXY
                have hst := LtS.conv S.out n hlow cap
                go_wp2_with (first | (go_at_call 9; (with_reducible refine (hpl _ (hl.next S.out.low)).mono ?_); rintro e w_ ⟨rfl, hb_⟩; replace S := Aside.mk (S.out.next hb_); clear hb_ hst; obtain ⟨b8, hb8⟩ : ∃ b, w_.heap.size = b := ⟨_, rfl⟩) | ((with_reducible refine at_store (p := 8) rfl ?_); refine store_new rfl 31 _ _ Cm.Cmd.zero.cells c.cells (by rfl) b8 hb8 (by rfl) (by rfl) (by kernel_rfl) (by rfl) (cmd_one _) ?_; have B8 := Aside.mk (show Blk _ b8 c.cells 31 from hb8 ▸ Blk.new _ _); replace S := Aside.mk (S.out.next ((Below.refl _ _).alloc (Nat.le_refl _) (.cells c.cells 31))); clear hb8))
                refine region_class (C := (fun w' => LtS w H c q low w' ∧ Blk w' b8 c.cells 31)) (by kernel_rfl) (by kernel_rfl) ⟨S.out.next (pw_below_drewN (Below.refl _ _) 1), B8.out⟩ ?_
                refine q_run ?_ ?_ ?_ ?_
                · kernel_rfl
                rotate_left
                · intro w_ hw_
                  have c0 := Blk.cell hw_.1.cmd 0 (.string (Cm.tx c.verb)) rfl
                  have cl := Blk.lt hw_.1.cmd
                  have hst := LtS.conv hw_.1 n hlow cap
                  first | (go_simp; done) | (go_simp; with_reducible rfl) | (go_simp; rw [if_neg (by first | omega | (simp; omega))])
                try simp only [Act.put, List.setIfInBounds_toArray, List.set_cons_zero, List.set_cons_succ]
                refine q_run ?_ ?_ ?_ ?_
                · kernel_rfl
                rotate_left
                · intro w_ hw_
                  have c0 := Blk.cell hw_.1.cmd 0 (.string (Cm.tx c.verb)) rfl
                  have cl := Blk.lt hw_.1.cmd
                  have hst := LtS.conv hw_.1 n hlow cap
                  first | (go_simp; done) | (go_simp; with_reducible rfl) | (go_simp; rw [if_neg (by first | omega | (simp; omega))])
                try simp only [Act.put, List.setIfInBounds_toArray, List.set_cons_zero, List.set_cons_succ]
                refine q_run ?_ ?_ ?_ ?_
                · kernel_rfl
                rotate_left
                · intro w_ hw_
                  have c0 := Blk.cell hw_.1.cmd 0 (.string (Cm.tx c.verb)) rfl
                  have cl := Blk.lt hw_.1.cmd
                  have hst := LtS.conv hw_.1 n hlow cap
                  first | (go_simp; done) | (go_simp; with_reducible rfl) | (go_simp; rw [if_neg (by first | omega | (simp; omega))])
                try simp only [Act.put, List.setIfInBounds_toArray, List.set_cons_zero, List.set_cons_succ]
                first
                 | (refine q_skip ?_ ?_
                    · rfl)
                 | (refine q_row ?_ _ _ rfl b8 0 ?_ c.cells.toList _ ?_ Tryz.underlying31 rfl (by kernel_rfl) ?_
                    · kernel_rfl
                    · rfl
                    · intro w_ hw_; exact blk_range hw_.2)
                try simp only [Act.put, List.setIfInBounds_toArray, List.set_cons_zero, List.set_cons_succ]
                first
                 | (refine q_skip ?_ ?_
                    · rfl)
                 | (refine q_row ?_ _ _ rfl H 0 ?_ c.cells.toList _ ?_ Tryz.underlying31 rfl (by kernel_rfl) ?_
                    · kernel_rfl
                    · rfl
                    · intro w_ hw_; exact blk_range hw_.1.cmd)
                try simp only [Act.put, List.setIfInBounds_toArray, List.set_cons_zero, List.set_cons_succ]
                first
                 | (refine q_skip ?_ ?_
                    · rfl)
                 | (refine q_run ?_ (.bool true) ?_ ?_
                    · kernel_rfl
                    · intro w_ hw_; exact eql_self c w_ _ _ _ _ _ (by rfl) (by rfl) (by rfl))
                try simp only [Act.put, List.setIfInBounds_toArray, List.set_cons_zero, List.set_cons_succ]
                refine q_run ?_ ?_ ?_ ?_
                · kernel_rfl
                rotate_left
                · intro w_ hw_
                  have c0 := Blk.cell hw_.1.cmd 0 (.string (Cm.tx c.verb)) rfl
                  have cl := Blk.lt hw_.1.cmd
                  have hst := LtS.conv hw_.1 n hlow cap
                  first | (go_simp; done) | (go_simp; with_reducible rfl) | (go_simp; rw [if_neg (by first | omega | (simp; omega))])
                try simp only [Act.put, List.setIfInBounds_toArray, List.set_cons_zero, List.set_cons_succ]
                refine q_run ?_ ?_ ?_ ?_
                · kernel_rfl
                rotate_left
                · intro w_ hw_
                  have c0 := Blk.cell hw_.1.cmd 0 (.string (Cm.tx c.verb)) rfl
                  have cl := Blk.lt hw_.1.cmd
                  have hst := LtS.conv hw_.1 n hlow cap
                  first | (go_simp; done) | (go_simp; with_reducible rfl) | (go_simp; rw [if_neg (by first | omega | (simp; omega))])
                try simp only [Act.put, List.setIfInBounds_toArray, List.set_cons_zero, List.set_cons_succ]
                first
                 | (refine q_skip ?_ ?_
                    · rfl)
                 | (refine q_run ?_ ?_ ?_ ?_
                    · kernel_rfl
                    rotate_left
                    · intro w_ hw_
                      have c0 := Blk.cell hw_.1.cmd 0 (.string (Cm.tx c.verb)) rfl
                      have cl := Blk.lt hw_.1.cmd
                      have hst := LtS.conv hw_.1 n hlow cap
                      first | (go_simp; done) | (go_simp; with_reducible rfl) | (go_simp; rw [if_neg (by first | omega | (simp; omega))]))
                try simp only [Act.put, List.setIfInBounds_toArray, List.set_cons_zero, List.set_cons_succ]
                first
                 | (refine q_skip ?_ ?_
                    · rfl)
                 | (refine q_run ?_ ?_ ?_ ?_
                    · kernel_rfl
                    rotate_left
                    · intro w_ hw_
                      have c0 := Blk.cell hw_.1.cmd 0 (.string (Cm.tx c.verb)) rfl
                      have cl := Blk.lt hw_.1.cmd
                      have hst := LtS.conv hw_.1 n hlow cap
                      first | (go_simp; done) | (go_simp; with_reducible rfl) | (go_simp; rw [if_neg (by first | omega | (simp; omega))]))
                try simp only [Act.put, List.setIfInBounds_toArray, List.set_cons_zero, List.set_cons_succ]
                first
                 | (refine q_skip ?_ ?_
                    · rfl)
                 | (refine q_call ?_ (.string (Cm.tx c.verb)) ?_ ?_ ?_ ?_ ?_
                    · kernel_rfl
                    rotate_left 2
                    · intro w_ hw_
                      go_simp
                      refine ⟨?_, ?_⟩ <;> with_reducible rfl
                    · intro w_ hw_
                      have c0 := Blk.cell hw_.1.cmd 0 (.string (Cm.tx c.verb)) rfl
                      have cl := Blk.lt hw_.1.cmd
                      have hst := LtS.conv hw_.1 n hlow cap
                      exact (hvl _ (hl.next hw_.1.low)).mono fun _ _ ⟨h1_, h2_⟩ => ⟨h1_, hw_.1.next h2_, hw_.2.below h2_⟩)
                try simp only [Act.put, List.setIfInBounds_toArray, List.set_cons_zero, List.set_cons_succ]
                first
                 | (refine q_skip ?_ ?_
                    · rfl)
                 | (refine q_run ?_ ?_ ?_ ?_
                    · kernel_rfl
                    rotate_left
                    · intro w_ hw_
                      have c0 := Blk.cell hw_.1.cmd 0 (.string (Cm.tx c.verb)) rfl
                      have cl := Blk.lt hw_.1.cmd
                      have hst := LtS.conv hw_.1 n hlow cap
                      first | (go_simp; done) | (go_simp; with_reducible rfl) | (go_simp; rw [if_neg (by first | omega | (simp; omega))]))
                try simp only [Act.put, List.setIfInBounds_toArray, List.set_cons_zero, List.set_cons_succ]
                first
                 | (refine q_skip ?_ ?_
                    · rfl)
                 | (refine q_run ?_ ?_ ?_ ?_
                    · kernel_rfl
                    rotate_left
                    · intro w_ hw_
                      have c0 := Blk.cell hw_.1.cmd 0 (.string (Cm.tx c.verb)) rfl
                      have cl := Blk.lt hw_.1.cmd
                      have hst := LtS.conv hw_.1 n hlow cap
                      first | (go_simp; done) | (go_simp; with_reducible rfl) | (go_simp; rw [if_neg (by first | omega | (simp; omega))]))
                try simp only [Act.put, List.setIfInBounds_toArray, List.set_cons_zero, List.set_cons_succ]
                first
                 | (refine q_skip ?_ ?_
                    · rfl)
                 | (refine q_run ?_ ?_ ?_ ?_
                    · kernel_rfl
                    rotate_left
                    · intro w_ hw_
                      have c0 := Blk.cell hw_.1.cmd 0 (.string (Cm.tx c.verb)) rfl
                      have cl := Blk.lt hw_.1.cmd
                      have hst := LtS.conv hw_.1 n hlow cap
                      first | (go_simp; done) | (go_simp; with_reducible rfl) | (go_simp; rw [if_neg (by first | omega | (simp; omega))]))
                try simp only [Act.put, List.setIfInBounds_toArray, List.set_cons_zero, List.set_cons_succ]
                refine q_run ?_ ?_ ?_ ?_
                · kernel_rfl
                rotate_left
                · intro w_ hw_
                  have c0 := Blk.cell hw_.1.cmd 0 (.string (Cm.tx c.verb)) rfl
                  have cl := Blk.lt hw_.1.cmd
                  have hst := LtS.conv hw_.1 n hlow cap
                  first | (go_simp; done) | (go_simp; with_reducible rfl) | (go_simp; rw [if_neg (by first | omega | (simp; omega))])
                try simp only [Act.put, List.setIfInBounds_toArray, List.set_cons_zero, List.set_cons_succ]
                refine q_run ?_ ?_ ?_ ?_
                · kernel_rfl
                rotate_left
                · intro w_ hw_
                  have c0 := Blk.cell hw_.1.cmd 0 (.string (Cm.tx c.verb)) rfl
                  have cl := Blk.lt hw_.1.cmd
                  have hst := LtS.conv hw_.1 n hlow cap
                  first | (go_simp; done) | (go_simp; with_reducible rfl) | (go_simp; rw [if_neg (by first | omega | (simp; omega))])
                try simp only [Act.put, List.setIfInBounds_toArray, List.set_cons_zero, List.set_cons_succ]
                refine q_nil ?_
                intro W_ hC_
                go_wp2
                go_ret
                exact ⟨rfl, by have L := hC_.1.low; rw [hHw] at L; exact L⟩
        · have hA : LtS w H c q low wr := by rw [hlo]; exact S.out
          replace S := Aside.mk hA
          clear hA z0 hlo
          have z0 := Blk.cell S.out.cmd 0 (.string (Cm.tx c.verb)) rfl
          have hst := LtS.conv S.out n hlow cap
          go_wp2_with (first | (go_at_call 9; (with_reducible refine (hpl _ (hl.next S.out.low)).mono ?_); rintro e w_ ⟨rfl, hb_⟩; replace S := Aside.mk (S.out.next hb_); clear hb_ hst; obtain ⟨b8, hb8⟩ : ∃ b, w_.heap.size = b := ⟨_, rfl⟩) | ((with_reducible refine at_store (p := 8) rfl ?_); refine store_new rfl 31 _ _ Cm.Cmd.zero.cells c.cells (by rfl) b8 hb8 (by rfl) (by rfl) (by kernel_rfl) (by rfl) (cmd_one _) ?_; have B8 := Aside.mk (show Blk _ b8 c.cells 31 from hb8 ▸ Blk.new _ _); replace S := Aside.mk (S.out.next ((Below.refl _ _).alloc (Nat.le_refl _) (.cells c.cells 31))); clear hb8))
          refine region_class (C := (fun w' => LtS w H c q low w' ∧ Blk w' b8 c.cells 31)) (by kernel_rfl) (by kernel_rfl) ⟨S.out.next (pw_below_drewN (Below.refl _ _) 1), B8.out⟩ ?_
          refine q_run ?_ ?_ ?_ ?_
          · kernel_rfl
          rotate_left
          · intro w_ hw_
            have c0 := Blk.cell hw_.1.cmd 0 (.string (Cm.tx c.verb)) rfl
            have cl := Blk.lt hw_.1.cmd
            have hst := LtS.conv hw_.1 n hlow cap
            first | (go_simp; done) | (go_simp; with_reducible rfl) | (go_simp; rw [if_neg (by first | omega | (simp; omega))])
          try simp only [Act.put, List.setIfInBounds_toArray, List.set_cons_zero, List.set_cons_succ]
          refine q_run ?_ ?_ ?_ ?_
          · kernel_rfl
          rotate_left
          · intro w_ hw_
            have c0 := Blk.cell hw_.1.cmd 0 (.string (Cm.tx c.verb)) rfl
            have cl := Blk.lt hw_.1.cmd
            have hst := LtS.conv hw_.1 n hlow cap
            first | (go_simp; done) | (go_simp; with_reducible rfl) | (go_simp; rw [if_neg (by first | omega | (simp; omega))])
          try simp only [Act.put, List.setIfInBounds_toArray, List.set_cons_zero, List.set_cons_succ]
          refine q_run ?_ ?_ ?_ ?_
          · kernel_rfl
          rotate_left
          · intro w_ hw_
            have c0 := Blk.cell hw_.1.cmd 0 (.string (Cm.tx c.verb)) rfl
            have cl := Blk.lt hw_.1.cmd
            have hst := LtS.conv hw_.1 n hlow cap
            first | (go_simp; done) | (go_simp; with_reducible rfl) | (go_simp; rw [if_neg (by first | omega | (simp; omega))])
          try simp only [Act.put, List.setIfInBounds_toArray, List.set_cons_zero, List.set_cons_succ]
          first
           | (refine q_skip ?_ ?_
              · rfl)
           | (refine q_row ?_ _ _ rfl b8 0 ?_ c.cells.toList _ ?_ Tryz.underlying31 rfl (by kernel_rfl) ?_
              · kernel_rfl
              · rfl
              · intro w_ hw_; exact blk_range hw_.2)
          try simp only [Act.put, List.setIfInBounds_toArray, List.set_cons_zero, List.set_cons_succ]
          first
           | (refine q_skip ?_ ?_
              · rfl)
           | (refine q_row ?_ _ _ rfl H 0 ?_ c.cells.toList _ ?_ Tryz.underlying31 rfl (by kernel_rfl) ?_
              · kernel_rfl
              · rfl
              · intro w_ hw_; exact blk_range hw_.1.cmd)
          try simp only [Act.put, List.setIfInBounds_toArray, List.set_cons_zero, List.set_cons_succ]
          first
           | (refine q_skip ?_ ?_
              · rfl)
           | (refine q_run ?_ (.bool true) ?_ ?_
              · kernel_rfl
              · intro w_ hw_; exact eql_self c w_ _ _ _ _ _ (by rfl) (by rfl) (by rfl))
          try simp only [Act.put, List.setIfInBounds_toArray, List.set_cons_zero, List.set_cons_succ]
          refine q_run ?_ ?_ ?_ ?_
          · kernel_rfl
          rotate_left
          · intro w_ hw_
            have c0 := Blk.cell hw_.1.cmd 0 (.string (Cm.tx c.verb)) rfl
            have cl := Blk.lt hw_.1.cmd
            have hst := LtS.conv hw_.1 n hlow cap
            first | (go_simp; done) | (go_simp; with_reducible rfl) | (go_simp; rw [if_neg (by first | omega | (simp; omega))])
          try simp only [Act.put, List.setIfInBounds_toArray, List.set_cons_zero, List.set_cons_succ]
          refine q_run ?_ ?_ ?_ ?_
          · kernel_rfl
          rotate_left
          · intro w_ hw_
            have c0 := Blk.cell hw_.1.cmd 0 (.string (Cm.tx c.verb)) rfl
            have cl := Blk.lt hw_.1.cmd
            have hst := LtS.conv hw_.1 n hlow cap
            first | (go_simp; done) | (go_simp; with_reducible rfl) | (go_simp; rw [if_neg (by first | omega | (simp; omega))])
          try simp only [Act.put, List.setIfInBounds_toArray, List.set_cons_zero, List.set_cons_succ]
          first
           | (refine q_skip ?_ ?_
              · rfl)
           | (refine q_run ?_ ?_ ?_ ?_
              · kernel_rfl
              rotate_left
              · intro w_ hw_
                have c0 := Blk.cell hw_.1.cmd 0 (.string (Cm.tx c.verb)) rfl
                have cl := Blk.lt hw_.1.cmd
                have hst := LtS.conv hw_.1 n hlow cap
                first | (go_simp; done) | (go_simp; with_reducible rfl) | (go_simp; rw [if_neg (by first | omega | (simp; omega))]))
          try simp only [Act.put, List.setIfInBounds_toArray, List.set_cons_zero, List.set_cons_succ]
          first
           | (refine q_skip ?_ ?_
              · rfl)
           | (refine q_run ?_ ?_ ?_ ?_
              · kernel_rfl
              rotate_left
              · intro w_ hw_
                have c0 := Blk.cell hw_.1.cmd 0 (.string (Cm.tx c.verb)) rfl
                have cl := Blk.lt hw_.1.cmd
                have hst := LtS.conv hw_.1 n hlow cap
                first | (go_simp; done) | (go_simp; with_reducible rfl) | (go_simp; rw [if_neg (by first | omega | (simp; omega))]))
          try simp only [Act.put, List.setIfInBounds_toArray, List.set_cons_zero, List.set_cons_succ]
          first
           | (refine q_skip ?_ ?_
              · rfl)
           | (refine q_call ?_ (.string (Cm.tx c.verb)) ?_ ?_ ?_ ?_ ?_
              · kernel_rfl
              rotate_left 2
              · intro w_ hw_
                go_simp
                refine ⟨?_, ?_⟩ <;> with_reducible rfl
              · intro w_ hw_
                have c0 := Blk.cell hw_.1.cmd 0 (.string (Cm.tx c.verb)) rfl
                have cl := Blk.lt hw_.1.cmd
                have hst := LtS.conv hw_.1 n hlow cap
                exact (hvl _ (hl.next hw_.1.low)).mono fun _ _ ⟨h1_, h2_⟩ => ⟨h1_, hw_.1.next h2_, hw_.2.below h2_⟩)
          try simp only [Act.put, List.setIfInBounds_toArray, List.set_cons_zero, List.set_cons_succ]
          first
           | (refine q_skip ?_ ?_
              · rfl)
           | (refine q_run ?_ ?_ ?_ ?_
              · kernel_rfl
              rotate_left
              · intro w_ hw_
                have c0 := Blk.cell hw_.1.cmd 0 (.string (Cm.tx c.verb)) rfl
                have cl := Blk.lt hw_.1.cmd
                have hst := LtS.conv hw_.1 n hlow cap
                first | (go_simp; done) | (go_simp; with_reducible rfl) | (go_simp; rw [if_neg (by first | omega | (simp; omega))]))
          try simp only [Act.put, List.setIfInBounds_toArray, List.set_cons_zero, List.set_cons_succ]
          first
           | (refine q_skip ?_ ?_
              · rfl)
           | (refine q_run ?_ ?_ ?_ ?_
              · kernel_rfl
              rotate_left
              · intro w_ hw_
                have c0 := Blk.cell hw_.1.cmd 0 (.string (Cm.tx c.verb)) rfl
                have cl := Blk.lt hw_.1.cmd
                have hst := LtS.conv hw_.1 n hlow cap
                first | (go_simp; done) | (go_simp; with_reducible rfl) | (go_simp; rw [if_neg (by first | omega | (simp; omega))]))
          try simp only [Act.put, List.setIfInBounds_toArray, List.set_cons_zero, List.set_cons_succ]
          first
           | (refine q_skip ?_ ?_
              · rfl)
           | (refine q_run ?_ ?_ ?_ ?_
              · kernel_rfl
              rotate_left
              · intro w_ hw_
                have c0 := Blk.cell hw_.1.cmd 0 (.string (Cm.tx c.verb)) rfl
                have cl := Blk.lt hw_.1.cmd
                have hst := LtS.conv hw_.1 n hlow cap
                first | (go_simp; done) | (go_simp; with_reducible rfl) | (go_simp; rw [if_neg (by first | omega | (simp; omega))]))
          try simp only [Act.put, List.setIfInBounds_toArray, List.set_cons_zero, List.set_cons_succ]
          refine q_run ?_ ?_ ?_ ?_
          · kernel_rfl
          rotate_left
          · intro w_ hw_
            have c0 := Blk.cell hw_.1.cmd 0 (.string (Cm.tx c.verb)) rfl
            have cl := Blk.lt hw_.1.cmd
            have hst := LtS.conv hw_.1 n hlow cap
            first | (go_simp; done) | (go_simp; with_reducible rfl) | (go_simp; rw [if_neg (by first | omega | (simp; omega))])
          try simp only [Act.put, List.setIfInBounds_toArray, List.set_cons_zero, List.set_cons_succ]
          refine q_run ?_ ?_ ?_ ?_
          · kernel_rfl
          rotate_left
          · intro w_ hw_
            have c0 := Blk.cell hw_.1.cmd 0 (.string (Cm.tx c.verb)) rfl
            have cl := Blk.lt hw_.1.cmd
            have hst := LtS.conv hw_.1 n hlow cap
            first | (go_simp; done) | (go_simp; with_reducible rfl) | (go_simp; rw [if_neg (by first | omega | (simp; omega))])
          try simp only [Act.put, List.setIfInBounds_toArray, List.set_cons_zero, List.set_cons_succ]
          refine q_nil ?_
          intro W_ hC_
          go_wp2
          go_ret
          exact ⟨rfl, by have L := hC_.1.low; rw [hHw] at L; exact L⟩
theorem letters_row (W : World) (hl : Lv W) (c : Cm.Cmd) (h1 : c.verb.length ≤ reachBytes) (h2 : c.arg.length ≤ reachBytes) (h3 : c.lo.length ≤ reachBytes) (h4 : c.dm.length ≤ reachBytes) (hm : MlIn c.ml) (hr : RcIn c.rc) :
    Calls Tryz.prog 4 #[.agg c.cells] W fun e w' => e = .returned (.bool true) ∧ Below W.heap.size W w' := by
  have hsm := small_in c h1 h2 h3 h4 hm hr
  cases hsb : c.small with
  | false => rw [hsb] at hsm; exact let_early c hsm W hl
  | true =>
    rw [hsb] at hsm
    obtain ⟨hf, hva⟩ := small_fits c hm hsb
    obtain ⟨p, hp⟩ : ∃ p, Cm.print c = p := ⟨_, rfl⟩
    obtain ⟨tc, ec⟩ := p
    by_cases hc : ec = 0
    · subst hc
      obtain ⟨q1, q2, q3⟩ := Cm.print_ok hp
      obtain ⟨t, k1, k2⟩ := line_low q1
      rw [q2] at k1
      subst k1
      have eqb : ∀ a b : List UInt8, (Cm.tx a).toList = a := fun a b => by rw [Lib.toList_data, Cm.tx_data]
      refine let_main c hf hsm (Cm.line_cases q1).1 t (Cm.lowered c) hp q3 _ _ rfl rfl ?_ (Cm.parse_lowered q1) (Cm.verb_lowered q1) W hl
      rw [eqb _ []]
      rcases k2 with ⟨km, k⟩ | ⟨⟨n1, n2⟩, k⟩
      · refine .inl ⟨?_, k⟩
        rcases km with km | km
        · rw [km]; exact .inl rfl
        · rw [km]; exact .inr ⟨rfl, rfl⟩
      · exact .inr ⟨⟨beq_eq_false_iff_ne.2 n1, beq_eq_false_iff_ne.2 n2⟩, k⟩
    · have htc := Cm.print_bad hp hc
      subst htc
      exact let_bad c hf hsm ec hp hc W hl
end Go.Proofs.YtllhbcpbihhdnaaGreatDoor
