/-
  CommandParts: its walk.
-/
import Derived.Test.YtllhbcpbihhdnaaGreatDoorQCmSm
set_option linter.unusedVariables false
set_option linter.unusedSimpArgs false
namespace Go.Proofs.YtllhbcpbihhdnaaGreatDoor
open Go.RowKit Go.Shelf Pm
set_option maxRecDepth 100000
theorem eql_path (a b : List UInt8) (w : World) (c : Act) (o : Oper) (x y : Operand) (t' : TypeId) (ho : o.op = .binOp .eql 23 x y t') (hx : c.eval x = .agg #[.string (Cm.tx a), .string (Cm.tx b)]) (hy : c.eval y = .agg #[.string (Cm.tx a), .string (Cm.tx b)]) : (execOp c.eval o).run Tryz.prog w = .ok (.value (.bool true)) w := by
  have := eql_cmp (by kernel_rfl) (cmp_path 9998 a b a b) w c o x y ho hx hy
  rwa [(Cm.pthEqb_iff a b a b).2 ⟨rfl, rfl⟩] at this
theorem eql_ml (m : Ml) (w : World) (c : Act) (o : Oper) (x y : Operand) (t' : TypeId) (ho : o.op = .binOp .eql 27 x y t') (hx : c.eval x = .agg m.cells) (hy : c.eval y = .agg m.cells) : (execOp c.eval o).run Tryz.prog w = .ok (.value (.bool true)) w := by
  have := eql_cmp (by kernel_rfl) (cmp_ml 9997 m m) w c o x y ho hx hy
  rwa [(Ml.eqb_iff m m).2 rfl] at this
theorem eql_rc (m : Rc) (w : World) (c : Act) (o : Oper) (x y : Operand) (t' : TypeId) (ho : o.op = .binOp .eql 29 x y t') (hx : c.eval x = .agg m.cells) (hy : c.eval y = .agg m.cells) : (execOp c.eval o).run Tryz.prog w = .ok (.value (.bool true)) w := by
  have := eql_cmp (by kernel_rfl) (cmp_rc 9998 m m) w c o x y ho hx hy
  rwa [(Rc.eqb_iff m m).2 rfl] at this
theorem step_any {P : Program} {ops : Array Oper} {rest : List Oper} {o : Oper} {a : Act} {w : World} {Q : Exit → Act → World → Prop} (hw : Region.wanted o (yielded ops a.tmps) = true) (v : Value) (hrun : (execOp a.eval o).run P w = .ok (.value v) w) (h : wpList P ops Q rest (a.put o.dst v) w) : wpList P ops Q (o :: rest) a w := step_value_g hw v hrun h
set_option maxHeartbeats 4000000 in
theorem parts_early (wt words : ByteArray) (hz : wt.size ≤ 140737488351232) (hz2 : words.size ≤ 140737488351232) (h : 1500 < wt.size ∨ (wt.size ≤ 1500 ∧ (1500 < words.size ∨ words.size ≤ 1500 ∧ (words.toList.isEmpty = true ∨ words.toList.isEmpty = false ∧ ∃ l x, words = Cm.tx (l ++ [x]) ∧ x = 32)))) (w : World) (hl : Lv w) : Calls Tryz.prog 5 #[.string wt, .string words] w fun e w' => e = .returned (.bool true) ∧ Below w.heap.size w w' := by
  rcases h with h | ⟨h, h2 | ⟨h2, h3 | ⟨h3, l, x, hw, rfl⟩⟩⟩
  · have d1 : decide ((1500 : Int) < (wt.size : Int)) = true := decide_eq_true (by omega)
    go_enter Tryz.func5, Tryz.ntmps5
    go_wp2_with (go_at_call 7; (with_reducible refine (awake_any _ hl).mono ?_); rintro e w_ ⟨rfl, hb_⟩; have M := Aside.mk ((Mine.start w).next hb_); clear hb_)
    go_ret
    exact ⟨rfl, M.out.low⟩
  · have d1 : decide ((1500 : Int) < (wt.size : Int)) = false := decide_eq_false (by omega)
    have d2 : decide ((1500 : Int) < (words.size : Int)) = true := decide_eq_true (by omega)
    go_enter Tryz.func5, Tryz.ntmps5
    go_wp2_with (go_at_call 7; (with_reducible refine (awake_any _ hl).mono ?_); rintro e w_ ⟨rfl, hb_⟩; have M := Aside.mk ((Mine.start w).next hb_); clear hb_)
    go_ret
    exact ⟨rfl, M.out.low⟩
  · have d1 : decide ((1500 : Int) < (wt.size : Int)) = false := decide_eq_false (by omega)
    have d2 : decide ((1500 : Int) < (words.size : Int)) = false := decide_eq_false (by omega)
    go_enter Tryz.func5, Tryz.ntmps5
    go_wp2_with (go_at_call 7; (with_reducible refine (awake_any _ hl).mono ?_); rintro e w_ ⟨rfl, hb_⟩; have M := Aside.mk ((Mine.start w).next hb_); clear hb_)
    go_ret
    exact ⟨rfl, M.out.low⟩
  · have d1 : decide ((1500 : Int) < (wt.size : Int)) = false := decide_eq_false (by omega)
    have d2 : decide ((1500 : Int) < (words.size : Int)) = false := decide_eq_false (by omega)
    have hs : words.size = l.length + 1 := by rw [hw, Cm.tx_size]; simp
    have n1 : ((words.size : Int) - 1).toNat = l.length := by omega
    have n2 : l.length < words.size := by omega
    have n3 : words[l.length] = 32 := by subst hw; show (Cm.tx (l ++ [32])).data[l.length] = 32; simp [Cm.tx]
    have hpos : 0 < words.size := by omega
    generalize l.length = K at n1 n2 n3
    clear hw hs
    go_enter Tryz.func5, Tryz.ntmps5
    go_wp2_with (go_at_call 7; (with_reducible refine (awake_any _ hl).mono ?_); rintro e w_ ⟨rfl, hb_⟩; have M := Aside.mk ((Mine.start w).next hb_); clear hb_)
    go_ret
    exact ⟨rfl, M.out.low⟩
/-- What stands in the midst: words short, not empty, with no blank at the end. -/
structure PtIn (wt words : ByteArray) : Prop where
  h1 : wt.size ≤ 1500
  h2 : words.size ≤ 1500
  h3 : words.toList.isEmpty = false
  h4 : ∃ l x, words = Cm.tx (l ++ [x]) ∧ x ≠ 32
set_option maxHeartbeats 4000000 in
theorem parts_other (wt words : ByteArray) (hin : PtIn wt words) (lo dm rest : List UInt8) (pe : Int) (hp : Pt.parse wt.data.toList = ((lo, dm), rest, pe)) (h : pe ≠ 0 ∨ pe = 0 ∧ rest ≠ []) (w : World) (hl : Lv w) : Calls Tryz.prog 5 #[.string wt, .string words] w fun e w' => e = .returned (.bool true) ∧ Below w.heap.size w w' := by
  obtain ⟨h1, h2, h3, l, x, hw, hx⟩ := hin
  have d1 : decide ((1500 : Int) < (wt.size : Int)) = false := decide_eq_false (by omega)
  have d2 : decide ((1500 : Int) < (words.size : Int)) = false := decide_eq_false (by omega)
  have hs : words.size = l.length + 1 := by rw [hw, Cm.tx_size]; simp
  have n1 : ((words.size : Int) - 1).toNat = l.length := by omega
  have n2 : l.length < words.size := by omega
  have n3 : words[l.length] = x := by subst hw; show (Cm.tx (l ++ [x])).data[l.length] = x; simp [Cm.tx]
  have hpos : 0 < words.size := by omega
  have n5 : ((x.toNat : Int) == 32) = false := u8_ne (c := x) (d := 32) hx
  have hpp := fun W (hW : Lv W) => pathParse_any wt (by omega) W hW
  rw [hp] at hpp
  change ∀ W (hW : Lv W), Calls _ _ _ W (fun e w' => e = .returned (.tuple #[.agg #[.string (Cm.tx lo), .string (Cm.tx dm)], .string (Cm.tx rest), .int .i64 pe]) ∧ _) at hpp
  generalize l.length = K at n1 n2 n3
  clear hw hx hp h1 hs
  rcases h with h | ⟨rfl, h⟩
  · have b1 : (pe != 0) = true := by simpa using h
    clear h
    go_enter Tryz.func5, Tryz.ntmps5
    go_wp2_with (first | (go_at_call 7; (with_reducible refine (awake_any _ hl).mono ?_); rintro e w_ ⟨rfl, hb_⟩; have M := Aside.mk ((Mine.start w).next hb_); clear hb_) | (go_at_call 12; (with_reducible refine (hpp _ (hl.next M.out.low)).mono ?_); rintro e w_ ⟨rfl, hb_⟩; replace M := Aside.mk (M.out.next hb_); clear hb_; obtain ⟨pb, hpb⟩ : ∃ b, w_.heap.size = b := ⟨_, rfl⟩) | ((with_reducible refine at_store (p := 5) rfl ?_); refine store_new rfl 23 _ _ #[.string ⟨#[]⟩, .string ⟨#[]⟩] #[.string (Cm.tx lo), .string (Cm.tx dm)] (by rfl) pb hpb (by rfl) (by rfl) (by kernel_rfl) (by rfl) (by simp [Value.oneCell']) ?_; replace M := Aside.mk (Mine.new M.out #[.string (Cm.tx lo), .string (Cm.tx dm)] 23 pb hpb); clear hpb))
    go_ret
    exact ⟨rfl, M.out.low⟩
  · have b2 : (Cm.tx rest).toList.isEmpty = false := by rw [tx_empty]; cases rest with | nil => exact absurd rfl h | cons _ _ => rfl
    clear h
    go_enter Tryz.func5, Tryz.ntmps5
    go_wp2_with (first | (go_at_call 7; (with_reducible refine (awake_any _ hl).mono ?_); rintro e w_ ⟨rfl, hb_⟩; have M := Aside.mk ((Mine.start w).next hb_); clear hb_) | (go_at_call 12; (with_reducible refine (hpp _ (hl.next M.out.low)).mono ?_); rintro e w_ ⟨rfl, hb_⟩; replace M := Aside.mk (M.out.next hb_); clear hb_; obtain ⟨pb, hpb⟩ : ∃ b, w_.heap.size = b := ⟨_, rfl⟩) | ((with_reducible refine at_store (p := 5) rfl ?_); refine store_new rfl 23 _ _ #[.string ⟨#[]⟩, .string ⟨#[]⟩] #[.string (Cm.tx lo), .string (Cm.tx dm)] (by rfl) pb hpb (by rfl) (by rfl) (by kernel_rfl) (by rfl) (by simp [Value.oneCell']) ?_; replace M := Aside.mk (Mine.new M.out #[.string (Cm.tx lo), .string (Cm.tx dm)] 23 pb hpb); clear hpb))
    go_ret
    exact ⟨rfl, M.out.low⟩
theorem blk_below {W : World} {b q : Nat} {cs : Array Value} {t : TypeId} (h : Blk W q cs t) (hb : W.heap.size = b) : q < b := hb ▸ h.lt
section
variable {w W W' : World} {b1 b2 b3 b4 b5 : Nat} {c1 c2 c3 c4 c5 c' : Array Value} {t1 t2 t3 t4 t5 : TypeId}
theorem Mine.set4 (M : Mine w [(b1, c1, t1), (b2, c2, t2), (b3, c3, t3), (b4, c4, t4), (b5, c5, t5)] W) (hb : Blk W' b4 c' t4) (hc : Chg (fun k => k = b4) W W') (n1 : b1 ≠ b4) (n2 : b2 ≠ b4) (n3 : b3 ≠ b4) (n5 : b5 ≠ b4) : Mine w [(b1, c1, t1), (b2, c2, t2), (b3, c3, t3), (b4, c', t4), (b5, c5, t5)] W' := by
  have h1 := M.own (b1, c1, t1) (by simp)
  have h2 := M.own (b2, c2, t2) (by simp)
  have h3 := M.own (b3, c3, t3) (by simp)
  have h4 := M.own (b4, c4, t4) (by simp)
  have h5 := M.own (b5, c5, t5) (by simp)
  refine ⟨hc.below M.low (fun k hk => by have := h4.1; dsimp only at this; omega) M.low.size, fun x hx => ?_⟩
  simp only [List.mem_cons, List.not_mem_nil, or_false] at hx
  rcases hx with rfl | rfl | rfl | rfl | rfl
  · exact ⟨h1.1, h1.2.chg hc n1⟩
  · exact ⟨h2.1, h2.2.chg hc n2⟩
  · exact ⟨h3.1, h3.2.chg hc n3⟩
  · exact ⟨h4.1, hb⟩
  · exact ⟨h5.1, h5.2.chg hc n5⟩
theorem Mine.set3 (M : Mine w [(b1, c1, t1), (b2, c2, t2), (b3, c3, t3), (b4, c4, t4), (b5, c5, t5)] W) (hb : Blk W' b3 c' t3) (hc : Chg (fun k => k = b3) W W') (n1 : b1 ≠ b3) (n2 : b2 ≠ b3) (n4 : b4 ≠ b3) (n5 : b5 ≠ b3) : Mine w [(b1, c1, t1), (b2, c2, t2), (b3, c', t3), (b4, c4, t4), (b5, c5, t5)] W' := by
  have h1 := M.own (b1, c1, t1) (by simp)
  have h2 := M.own (b2, c2, t2) (by simp)
  have h3 := M.own (b3, c3, t3) (by simp)
  have h4 := M.own (b4, c4, t4) (by simp)
  have h5 := M.own (b5, c5, t5) (by simp)
  refine ⟨hc.below M.low (fun k hk => by have := h3.1; dsimp only at this; omega) M.low.size, fun x hx => ?_⟩
  simp only [List.mem_cons, List.not_mem_nil, or_false] at hx
  rcases hx with rfl | rfl | rfl | rfl | rfl
  · exact ⟨h1.1, h1.2.chg hc n1⟩
  · exact ⟨h2.1, h2.2.chg hc n2⟩
  · exact ⟨h3.1, hb⟩
  · exact ⟨h4.1, h4.2.chg hc n4⟩
  · exact ⟨h5.1, h5.2.chg hc n5⟩
end
set_option maxHeartbeats 16000000 in
theorem parts_main (wt words : ByteArray) (hin : PtIn wt words) (lo dm : List UInt8) (hp : Pt.parse wt.data.toList = ((lo, dm), [], 0)) (m : Ml) (f : Int) (hm : Pm.parseMail words = (m, f)) (r : Rc) (g : Int) (hr : Pm.parseRcpt words = (r, g)) (cx cy : Cm.Cmd) (h i : Int)
    (hx0 : Cm.parse (Cm.vMAIL ++ 32 :: (Cm.kFrom ++ (wt.data.toList ++ 32 :: words.data.toList))) = (cx, h)) (hy0 : Cm.parse (Cm.vRCPT ++ 32 :: (Cm.kTo ++ (wt.data.toList ++ 32 :: words.data.toList))) = (cy, i)) (nu : Bool) (hnu0 : ((Cm.tx lo).toList.isEmpty && (Cm.tx dm).toList.isEmpty) = nu)
    (hc1 : ((Cm.tx dm).toList.isEmpty = true ∧ (Cm.tx lo).toList.isEmpty = false ∧ cx = Cm.Cmd.zero ∧ h = 2) ∨ (((Cm.tx dm).toList.isEmpty = false ∨ (Cm.tx dm).toList.isEmpty = true ∧ (Cm.tx lo).toList.isEmpty = true) ∧ ((f == 0) = false ∧ (f != 0) = true ∧ cx = Cm.Cmd.zero ∧ h = f ∨ f = 0 ∧ cx = (⟨Cm.vMAIL, [], lo, dm, m, Rc.zero⟩ : Cm.Cmd) ∧ h = 0)))
    (hc2 : (nu = true ∧ cy = Cm.Cmd.zero ∧ i = 2) ∨ (nu = false ∧ ((g == 0) = false ∧ (g != 0) = true ∧ cy = Cm.Cmd.zero ∧ i = g ∨ g = 0 ∧ cy = (⟨Cm.vRCPT, [], lo, dm, Ml.zero, r⟩ : Cm.Cmd) ∧ i = 0))) (w : World) (hl : Lv w) : Calls Tryz.prog 5 #[.string wt, .string words] w fun e w' => e = .returned (.bool true) ∧ Below w.heap.size w w' := by
  obtain ⟨h1, h2, h3, l, x, hw, hx⟩ := hin
  have d1 : decide ((1500 : Int) < (wt.size : Int)) = false := decide_eq_false (by omega)
  have d2 : decide ((1500 : Int) < (words.size : Int)) = false := decide_eq_false (by omega)
  have hs : words.size = l.length + 1 := by rw [hw, Cm.tx_size]; simp
  have n1 : ((words.size : Int) - 1).toNat = l.length := by omega
  have n2 : l.length < words.size := by omega
  have n3 : words[l.length] = x := by subst hw; show (Cm.tx (l ++ [x])).data[l.length] = x; simp [Cm.tx]
  have hpos : 0 < words.size := by omega
  have n5 : ((x.toNat : Int) == 32) = false := u8_ne (c := x) (d := 32) hx
  have hpp := fun W (hW : Lv W) => pathParse_any wt (by omega) W hW
  rw [hp] at hpp
  change ∀ W (hW : Lv W), Calls _ _ _ W (fun e w' => e = .returned (.tuple #[.agg #[.string (Cm.tx lo), .string (Cm.tx dm)], .string (Cm.tx []), .int .i64 0]) ∧ _) at hpp
  have hpm := fun W (hW : Lv W) => parseMail_any words (by omega) W hW
  rw [hm] at hpm
  have hpr := fun W (hW : Lv W) => parseRcpt_any words (by omega) W hW
  rw [hr] at hpr
  have hwl : words.data.toList.length = words.size := by simp
  have hcm := fun W (hW : Lv W) => commandParse_any (⟨#[77, 65, 73, 76, 32, 70, 82, 79, 77, 58]⟩ ++ wt ++ ⟨#[32]⟩ ++ words) (by simp only [ByteArray.size_append]; rw [show (⟨#[77, 65, 73, 76, 32, 70, 82, 79, 77, 58]⟩ : ByteArray).size = 10 by rfl, show (⟨#[32]⟩ : ByteArray).size = 1 by rfl]; omega) W hW
  rw [show (⟨#[77, 65, 73, 76, 32, 70, 82, 79, 77, 58]⟩ ++ wt ++ ⟨#[32]⟩ ++ words : ByteArray).data.toList = Cm.vMAIL ++ 32 :: (Cm.kFrom ++ (wt.data.toList ++ 32 :: words.data.toList)) by simp [Cm.vMAIL, Cm.kFrom], hx0] at hcm
  have hcr := fun W (hW : Lv W) => commandParse_any (⟨#[82, 67, 80, 84, 32, 84, 79, 58]⟩ ++ wt ++ ⟨#[32]⟩ ++ words) (by simp only [ByteArray.size_append]; rw [show (⟨#[82, 67, 80, 84, 32, 84, 79, 58]⟩ : ByteArray).size = 8 by rfl, show (⟨#[32]⟩ : ByteArray).size = 1 by rfl]; omega) W hW
  rw [show (⟨#[82, 67, 80, 84, 32, 84, 79, 58]⟩ ++ wt ++ ⟨#[32]⟩ ++ words : ByteArray).data.toList = Cm.vRCPT ++ 32 :: (Cm.kTo ++ (wt.data.toList ++ 32 :: words.data.toList)) by simp [Cm.vRCPT, Cm.kTo], hy0] at hcr
  dsimp only at hpm hpr hcm hcr
  have hnu := fun W => pathNull_any (Cm.tx lo) (Cm.tx dm) W
  rw [hnu0] at hnu
  have hne : (Cm.tx []).toList.isEmpty = true := by rw [tx_empty]; rfl
  have o1 : ¬ 9223372036854775807 < 10 + wt.size := by omega
  have o2 : ¬ 9223372036854775807 < 10 + wt.size + 1 := by omega
  have o3 : ¬ 9223372036854775807 < 10 + wt.size + 1 + words.size := by omega
  have o4 : ¬ 9223372036854775807 < 8 + wt.size := by omega
  have o5 : ¬ 9223372036854775807 < 8 + wt.size + 1 := by omega
  have o6 : ¬ 9223372036854775807 < 8 + wt.size + 1 + words.size := by omega
  generalize l.length = K at n1 n2 n3
  have HC := Aside.mk (And.intro hc1 hc2)
  clear hw hx hp hs hc1 hc2 hm hr hx0 hy0 hwl hnu0
  go_enter Tryz.func5, Tryz.ntmps5
  go_upto_region 12 with (first | (go_at_call 7; (with_reducible refine (awake_any _ hl).mono ?_); rintro e w_ ⟨rfl, hb_⟩; have M := Aside.mk ((Mine.start w).next hb_); clear hb_) | (go_at_call 12; (with_reducible refine (hpp _ (hl.next M.out.low)).mono ?_); rintro e w_ ⟨rfl, hb_⟩; replace M := Aside.mk (M.out.next hb_); clear hb_; obtain ⟨pb, hpb⟩ : ∃ b, w_.heap.size = b := ⟨_, rfl⟩) | ((with_reducible refine at_store (p := 5) rfl ?_); refine store_new rfl 23 _ _ #[.string ⟨#[]⟩, .string ⟨#[]⟩] #[.string (Cm.tx lo), .string (Cm.tx dm)] (by rfl) pb hpb (by rfl) (by rfl) (by kernel_rfl) (by rfl) (by simp [Value.oneCell']) ?_; replace M := Aside.mk (Mine.new M.out #[.string (Cm.tx lo), .string (Cm.tx dm)] 23 pb hpb); clear hpb) | (go_at_call 13; (with_reducible refine (hpm _ (hl.next M.out.low)).mono ?_); rintro e w_ ⟨rfl, hb_⟩; replace M := Aside.mk (M.out.next hb_); clear hb_; obtain ⟨mb, hmb⟩ : ∃ b, w_.heap.size = b := ⟨_, rfl⟩; have Lpbmb := Aside.mk (blk_below (M.out.own (pb, #[.string (Cm.tx lo), .string (Cm.tx dm)], 23) (by repeat (first | exact List.mem_cons_self .. | apply List.mem_cons_of_mem))).2 hmb)) | ((with_reducible refine at_store (p := 8) rfl ?_); refine store_new rfl 27 _ _ Ml.zero.cells m.cells (by rfl) mb hmb (by rfl) (by rfl) (by kernel_rfl) (by rfl) (ml_ones _) ?_; replace M := Aside.mk (Mine.new M.out m.cells 27 mb hmb); clear hmb) | (go_at_call 14; (with_reducible refine (hpr _ (hl.next M.out.low)).mono ?_); rintro e w_ ⟨rfl, hb_⟩; replace M := Aside.mk (M.out.next hb_); clear hb_; obtain ⟨rb, hrb⟩ : ∃ b, w_.heap.size = b := ⟨_, rfl⟩; have Lpbrb := Aside.mk (blk_below (M.out.own (pb, #[.string (Cm.tx lo), .string (Cm.tx dm)], 23) (by repeat (first | exact List.mem_cons_self .. | apply List.mem_cons_of_mem))).2 hrb); have Lmbrb := Aside.mk (blk_below (M.out.own (mb, m.cells, 27) (by repeat (first | exact List.mem_cons_self .. | apply List.mem_cons_of_mem))).2 hrb)) | ((with_reducible refine at_store (p := 10) rfl ?_); refine store_new rfl 29 _ _ Rc.zero.cells r.cells (by rfl) rb hrb (by rfl) (by rfl) (by kernel_rfl) (by rfl) (rc_ones _) ?_; replace M := Aside.mk (Mine.new M.out r.cells 29 rb hrb); clear hrb) | (go_at_call 9; (with_reducible refine (hcm _ (hl.next M.out.low)).mono ?_); rintro e w_ ⟨rfl, hb_⟩; replace M := Aside.mk (M.out.next hb_); clear hb_; obtain ⟨xb, hxb⟩ : ∃ b, w_.heap.size = b := ⟨_, rfl⟩; have Lmbxb := Aside.mk (blk_below (M.out.own (mb, m.cells, 27) (by repeat (first | exact List.mem_cons_self .. | apply List.mem_cons_of_mem))).2 hxb); have Lrbxb := Aside.mk (blk_below (M.out.own (rb, r.cells, 29) (by repeat (first | exact List.mem_cons_self .. | apply List.mem_cons_of_mem))).2 hxb)) | ((with_reducible refine at_store (p := 12) rfl ?_); refine store_new rfl 31 _ _ Cm.Cmd.zero.cells cx.cells (by rfl) xb hxb (by rfl) (by rfl) (by kernel_rfl) (by rfl) (cmd_one _) ?_; replace M := Aside.mk (Mine.new M.out cx.cells 31 xb hxb); clear hxb) | (go_at_call 9; (with_reducible refine (hcr _ (hl.next M.out.low)).mono ?_); rintro e w_ ⟨rfl, hb_⟩; replace M := Aside.mk (M.out.next hb_); clear hb_; obtain ⟨yb, hyb⟩ : ∃ b, w_.heap.size = b := ⟨_, rfl⟩; have Lmbyb := Aside.mk (blk_below (M.out.own (mb, m.cells, 27) (by repeat (first | exact List.mem_cons_self .. | apply List.mem_cons_of_mem))).2 hyb); have Lrbyb := Aside.mk (blk_below (M.out.own (rb, r.cells, 29) (by repeat (first | exact List.mem_cons_self .. | apply List.mem_cons_of_mem))).2 hyb)) | ((with_reducible refine at_store (p := 14) rfl ?_); refine store_new rfl 31 _ _ Cm.Cmd.zero.cells cy.cells (by rfl) yb hyb (by rfl) (by rfl) (by kernel_rfl) (by rfl) (cmd_one _) ?_; replace M := Aside.mk (Mine.new M.out cy.cells 31 yb hyb); clear hyb; have y0 := (M.out.own (pb, #[.string (Cm.tx lo), .string (Cm.tx dm)], 23) (by repeat (first | exact List.mem_cons_self .. | apply List.mem_cons_of_mem))).2.cell 0 (.string (Cm.tx lo)) rfl; have y1 := (M.out.own (pb, #[.string (Cm.tx lo), .string (Cm.tx dm)], 23) (by repeat (first | exact List.mem_cons_self .. | apply List.mem_cons_of_mem))).2.cell 1 (.string (Cm.tx dm)) rfl))
  obtain ⟨hc1, hc2⟩ := HC.out
  clear HC hpp hpm hpr hcm hcr
  rcases hc1 with ⟨a1, a2, rfl, rfl⟩ | ⟨a1 | ⟨a1, a2⟩, ⟨f1, f2, rfl, rfl⟩ | ⟨rfl, rfl, rfl⟩⟩
  all_goals
    rcases hc2 with ⟨rfl, rfl, rfl⟩ | ⟨rfl, ⟨g1, g2, rfl, rfl⟩ | ⟨rfl, rfl, rfl⟩⟩
    all_goals
      go_wp2_with (first | ((with_reducible refine at_store (p := 8) rfl ?_); refine store_blk rfl 27 _ _ (by rfl) mb (by rfl) m.cells Ml.zero.cells 27 (M.out.own (mb, m.cells, 27) (by repeat (first | exact List.mem_cons_self .. | apply List.mem_cons_of_mem))).2 (by rfl) (by rfl) (by kernel_rfl) (ml_ones _) ?_; intro w_ hb_ hc_; have M2 := Aside.mk (Mine.set4 M.out hb_ hc_ (Nat.ne_of_gt Lmbyb.out) (Nat.ne_of_gt Lmbxb.out) (Nat.ne_of_gt Lmbrb.out) (Nat.ne_of_lt Lpbmb.out)); clear hb_ hc_ M y0 y1; have M := M2; clear M2; have y0 := (M.out.own (pb, #[.string (Cm.tx lo), .string (Cm.tx dm)], 23) (by repeat (first | exact List.mem_cons_self .. | apply List.mem_cons_of_mem))).2.cell 0 (.string (Cm.tx lo)) rfl; have y1 := (M.out.own (pb, #[.string (Cm.tx lo), .string (Cm.tx dm)], 23) (by repeat (first | exact List.mem_cons_self .. | apply List.mem_cons_of_mem))).2.cell 1 (.string (Cm.tx dm)) rfl) | (go_at_call 15; (with_reducible refine (hnu _).mono ?_); rintro e w_ ⟨rfl, hb_⟩; replace M := Aside.mk (M.out.next hb_); clear hb_; clear y0 y1; have y0 := (M.out.own (pb, #[.string (Cm.tx lo), .string (Cm.tx dm)], 23) (by repeat (first | exact List.mem_cons_self .. | apply List.mem_cons_of_mem))).2.cell 0 (.string (Cm.tx lo)) rfl; have y1 := (M.out.own (pb, #[.string (Cm.tx lo), .string (Cm.tx dm)], 23) (by repeat (first | exact List.mem_cons_self .. | apply List.mem_cons_of_mem))).2.cell 1 (.string (Cm.tx dm)) rfl) | ((with_reducible refine at_dst (N := 87) rfl ?_); refine load_blk rfl 23 _ (by rfl) pb (by rfl) #[.string (Cm.tx lo), .string (Cm.tx dm)] 23 _ (M.out.own (pb, #[.string (Cm.tx lo), .string (Cm.tx dm)], 23) (by repeat (first | exact List.mem_cons_self .. | apply List.mem_cons_of_mem))).2 Tryz.underlying23 rfl (by kernel_rfl) ?_) | ((with_reducible refine at_store (p := 10) rfl ?_); refine store_blk rfl 29 _ _ (by rfl) rb (by rfl) r.cells Rc.zero.cells 29 (M.out.own (rb, r.cells, 29) (by repeat (first | exact List.mem_cons_self .. | apply List.mem_cons_of_mem))).2 (by rfl) (by rfl) (by kernel_rfl) (rc_ones _) ?_; intro w_ hb_ hc_; have M2 := Aside.mk (Mine.set3 M.out hb_ hc_ (Nat.ne_of_gt Lrbyb.out) (Nat.ne_of_gt Lrbxb.out) (Nat.ne_of_lt Lmbrb.out) (Nat.ne_of_lt Lpbrb.out)); clear hb_ hc_ M y0 y1; have M := M2; clear M2; have y0 := (M.out.own (pb, #[.string (Cm.tx lo), .string (Cm.tx dm)], 23) (by repeat (first | exact List.mem_cons_self .. | apply List.mem_cons_of_mem))).2.cell 0 (.string (Cm.tx lo)) rfl; have y1 := (M.out.own (pb, #[.string (Cm.tx lo), .string (Cm.tx dm)], 23) (by repeat (first | exact List.mem_cons_self .. | apply List.mem_cons_of_mem))).2.cell 1 (.string (Cm.tx dm)) rfl) | ((with_reducible refine at_dst (N := 103) rfl ?_); refine load_off_g (by rfl) 23 _ (by rfl) xb 2 (by rfl) (⟨Cm.vMAIL, [], lo, dm, m, Rc.zero⟩ : Cm.Cmd).cells 31 (M.out.own (xb, (⟨Cm.vMAIL, [], lo, dm, m, Rc.zero⟩ : Cm.Cmd).cells, 31) (by repeat (first | exact List.mem_cons_self .. | apply List.mem_cons_of_mem))).2 #[.string (Cm.tx lo), .string (Cm.tx dm)] (by rfl) _ Tryz.underlying23 rfl (by kernel_rfl) ?_) | ((with_reducible refine at_dst (N := 104) rfl ?_); refine load_blk_g pb 23 (by rfl) _ (by rfl) (by rfl) #[.string (Cm.tx lo), .string (Cm.tx dm)] 23 _ (M.out.own (pb, #[.string (Cm.tx lo), .string (Cm.tx dm)], 23) (by repeat (first | exact List.mem_cons_self .. | apply List.mem_cons_of_mem))).2 Tryz.underlying23 rfl (by kernel_rfl) ?_) | ((with_reducible refine at_dst (N := 105) rfl ?_); refine step_value_g (by rfl) (.bool true) (eql_path lo dm _ _ _ _ _ _ (by rfl) (by rfl) (by rfl)) ?_) | ((with_reducible refine at_dst (N := 108) rfl ?_); refine load_off_g (by rfl) 27 _ (by rfl) xb 4 (by rfl) (⟨Cm.vMAIL, [], lo, dm, m, Rc.zero⟩ : Cm.Cmd).cells 31 (M.out.own (xb, (⟨Cm.vMAIL, [], lo, dm, m, Rc.zero⟩ : Cm.Cmd).cells, 31) (by repeat (first | exact List.mem_cons_self .. | apply List.mem_cons_of_mem))).2 m.cells (by rfl) _ Tryz.underlying27 rfl (by kernel_rfl) ?_) | ((with_reducible refine at_dst (N := 109) rfl ?_); refine load_blk_g mb 27 (by rfl) _ (by rfl) (by rfl) m.cells 27 _ (M.out.own (mb, m.cells, 27) (by repeat (first | exact List.mem_cons_self .. | apply List.mem_cons_of_mem))).2 Tryz.underlying27 rfl (by kernel_rfl) ?_) | ((with_reducible refine at_dst (N := 110) rfl ?_); refine step_value_g (by rfl) (.bool true) (eql_ml m _ _ _ _ _ _ (by rfl) (by rfl) (by rfl)) ?_) | ((with_reducible refine at_dst (N := 119) rfl ?_); refine load_off_g (by rfl) 23 _ (by rfl) yb 2 (by rfl) (⟨Cm.vRCPT, [], lo, dm, Ml.zero, r⟩ : Cm.Cmd).cells 31 (M.out.own (yb, (⟨Cm.vRCPT, [], lo, dm, Ml.zero, r⟩ : Cm.Cmd).cells, 31) (by repeat (first | exact List.mem_cons_self .. | apply List.mem_cons_of_mem))).2 #[.string (Cm.tx lo), .string (Cm.tx dm)] (by rfl) _ Tryz.underlying23 rfl (by kernel_rfl) ?_) | ((with_reducible refine at_dst (N := 120) rfl ?_); refine load_blk_g pb 23 (by rfl) _ (by rfl) (by rfl) #[.string (Cm.tx lo), .string (Cm.tx dm)] 23 _ (M.out.own (pb, #[.string (Cm.tx lo), .string (Cm.tx dm)], 23) (by repeat (first | exact List.mem_cons_self .. | apply List.mem_cons_of_mem))).2 Tryz.underlying23 rfl (by kernel_rfl) ?_) | ((with_reducible refine at_dst (N := 121) rfl ?_); refine step_value_g (by rfl) (.bool true) (eql_path lo dm _ _ _ _ _ _ (by rfl) (by rfl) (by rfl)) ?_) | ((with_reducible refine at_dst (N := 124) rfl ?_); refine load_off_g (by rfl) 29 _ (by rfl) yb 18 (by rfl) (⟨Cm.vRCPT, [], lo, dm, Ml.zero, r⟩ : Cm.Cmd).cells 31 (M.out.own (yb, (⟨Cm.vRCPT, [], lo, dm, Ml.zero, r⟩ : Cm.Cmd).cells, 31) (by repeat (first | exact List.mem_cons_self .. | apply List.mem_cons_of_mem))).2 r.cells (by rfl) _ Tryz.underlying29 rfl (by kernel_rfl) ?_) | ((with_reducible refine at_dst (N := 125) rfl ?_); refine load_blk_g rb 29 (by rfl) _ (by rfl) (by rfl) r.cells 29 _ (M.out.own (rb, r.cells, 29) (by repeat (first | exact List.mem_cons_self .. | apply List.mem_cons_of_mem))).2 Tryz.underlying29 rfl (by kernel_rfl) ?_) | ((with_reducible refine at_dst (N := 126) rfl ?_); refine step_value_g (by rfl) (.bool true) (eql_rc r _ _ _ _ _ _ (by rfl) (by rfl) (by rfl)) ?_) | ((with_reducible refine at_dst (N := 134) rfl ?_); refine load_blk_g xb 31 (by rfl) _ (by rfl) (by rfl) Cm.Cmd.zero.cells 31 _ (M.out.own (xb, Cm.Cmd.zero.cells, 31) (by repeat (first | exact List.mem_cons_self .. | apply List.mem_cons_of_mem))).2 Tryz.underlying31 rfl (by kernel_rfl) ?_) | ((with_reducible refine at_dst (N := 136) rfl ?_); refine step_value_g (by rfl) (.bool true) (eql_self Cm.Cmd.zero _ _ _ _ _ _ (by rfl) (by rfl) (by rfl)) ?_) | ((with_reducible refine at_dst (N := 143) rfl ?_); refine load_blk_g yb 31 (by rfl) _ (by rfl) (by rfl) Cm.Cmd.zero.cells 31 _ (M.out.own (yb, Cm.Cmd.zero.cells, 31) (by repeat (first | exact List.mem_cons_self .. | apply List.mem_cons_of_mem))).2 Tryz.underlying31 rfl (by kernel_rfl) ?_) | ((with_reducible refine at_dst (N := 145) rfl ?_); refine step_value_g (by rfl) (.bool true) (eql_self Cm.Cmd.zero _ _ _ _ _ _ (by rfl) (by rfl) (by rfl)) ?_))
      go_ret
      exact ⟨rfl, M.out.low⟩
theorem split_last (l : List UInt8) (h : l ≠ []) : ∃ a x, l = a ++ [x] := ⟨l.dropLast, l.getLast h, (List.dropLast_concat_getLast h).symm⟩
theorem parts_row (W : World) (hl : Lv W) (wt : ByteArray) (hz : wt.size ≤ 140737488351232) (words : ByteArray) (hz2 : words.size ≤ 140737488351232) : Calls Tryz.prog 5 #[.string wt, .string words] W fun e w' => e = .returned (.bool true) ∧ Below W.heap.size W w' := by
  by_cases h1 : wt.size ≤ 1500
  · by_cases h2 : words.size ≤ 1500
    · by_cases h3 : words.data.toList = []
      · exact parts_early wt words hz hz2 (.inr ⟨h1, .inr ⟨h2, .inl (by rw [Lib.toList_data, h3]; rfl)⟩⟩) W hl
      · have h3' : words.toList.isEmpty = false := by rw [Lib.toList_data]; cases hq : words.data.toList with | nil => exact absurd hq h3 | cons _ _ => rfl
        obtain ⟨l, x, hlx⟩ := split_last _ h3
        have hwx : words = Cm.tx (l ++ [x]) := by rw [← hlx, Cm.tx_of]
        by_cases h4 : x = 32
        · exact parts_early wt words hz hz2 (.inr ⟨h1, .inr ⟨h2, .inr ⟨h3', l, x, hwx, h4⟩⟩⟩) W hl
        · have hin : PtIn wt words := ⟨h1, h2, h3', l, x, hwx, h4⟩
          obtain ⟨p, hp⟩ : ∃ p, Pt.parse wt.data.toList = p := ⟨_, rfl⟩
          obtain ⟨⟨lo, dm⟩, rest, pe⟩ := p
          by_cases h5 : pe = 0
          · by_cases h6 : rest = []
            · subst h5 h6
              have hlast : words.data.toList.getLast? ≠ some 32 := by rw [hlx]; simp [h4]
              have e1 := Cm.parts_mail hp h3 hlast
              have e2 := Cm.parts_rcpt hp h3 hlast
              rw [Cm.tx_of] at e1 e2
              obtain ⟨m, hm⟩ : ∃ p, Pm.parseMail words = p := ⟨_, rfl⟩
              obtain ⟨m, f⟩ := m
              obtain ⟨r, hr⟩ : ∃ p, Pm.parseRcpt words = p := ⟨_, rfl⟩
              obtain ⟨r, g⟩ := r
              rw [hm] at e1
              rw [hr] at e2
              dsimp only at e1 e2
              obtain ⟨p1, hp1⟩ : ∃ p, Cm.parse (Cm.vMAIL ++ 32 :: (Cm.kFrom ++ (wt.data.toList ++ 32 :: words.data.toList))) = p := ⟨_, rfl⟩
              obtain ⟨p2, hp2⟩ : ∃ p, Cm.parse (Cm.vRCPT ++ 32 :: (Cm.kTo ++ (wt.data.toList ++ 32 :: words.data.toList))) = p := ⟨_, rfl⟩
              rw [hp1] at e1
              rw [hp2] at e2
              obtain ⟨cx, h⟩ := p1
              obtain ⟨cy, i⟩ := p2
              refine parts_main wt words hin lo dm hp m f hm r g hr cx cy h i hp1 hp2 _ rfl ?_ ?_ W hl
              · rw [isE, isE]
                by_cases k : dm = [] ∧ lo ≠ []
                · rw [if_pos k, Prod.mk.injEq] at e1
                  exact .inl ⟨by rw [k.1]; rfl, by cases lo with | nil => exact absurd rfl k.2 | cons _ _ => rfl, e1⟩
                · rw [if_neg k] at e1
                  refine .inr ⟨?_, ?_⟩
                  · cases dm with
                    | cons _ _ => exact .inl rfl
                    | nil =>
                      cases lo with
                      | nil => exact .inr ⟨rfl, rfl⟩
                      | cons _ _ => exact absurd ⟨rfl, by simp⟩ k
                  · by_cases hf : f = 0
                    · rw [if_neg (not_not_intro hf), Prod.mk.injEq] at e1; exact .inr ⟨hf, e1⟩
                    · rw [if_pos hf, Prod.mk.injEq] at e1; exact .inl ⟨by simpa using hf, by simpa using hf, e1⟩
              · rw [isE, isE]
                by_cases k : dm = [] ∧ lo = []
                · rw [if_pos k, Prod.mk.injEq] at e2
                  exact .inl ⟨by rw [k.1, k.2]; rfl, e2⟩
                · rw [if_neg k] at e2
                  refine .inr ⟨?_, ?_⟩
                  · cases lo with
                    | cons _ _ => rfl
                    | nil =>
                      cases dm with
                      | nil => exact absurd ⟨rfl, rfl⟩ k
                      | cons _ _ => rfl
                  · by_cases hg : g = 0
                    · rw [if_neg (not_not_intro hg), Prod.mk.injEq] at e2; exact .inr ⟨hg, e2⟩
                    · rw [if_pos hg, Prod.mk.injEq] at e2; exact .inl ⟨by simpa using hg, by simpa using hg, e2⟩
            · exact parts_other wt words hin lo dm rest pe hp (.inr ⟨h5, h6⟩) W hl
          · exact parts_other wt words hin lo dm rest pe hp (.inl h5) W hl
    · exact parts_early wt words hz hz2 (.inr ⟨h1, .inl (by omega)⟩) W hl
  · exact parts_early wt words hz hz2 (.inl (by omega)) W hl
end Go.Proofs.YtllhbcpbihhdnaaGreatDoor
