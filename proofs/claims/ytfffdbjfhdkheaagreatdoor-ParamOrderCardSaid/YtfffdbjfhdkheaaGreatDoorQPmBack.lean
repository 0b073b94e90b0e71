/-
  ParamBack: its walk, in one.
-/
import Derived.Test.YtfffdbjfhdkheaaGreatDoorQPmBk1
import Derived.Test.YtfffdbjfhdkheaaGreatDoorQPmBk2
import Derived.Test.YtfffdbjfhdkheaaGreatDoorQPmBk3
import Derived.Test.YtfffdbjfhdkheaaGreatDoorQPmBk4
set_option linter.unusedVariables false
set_option linter.unusedSimpArgs false
namespace Go.Proofs.YtfffdbjfhdkheaaGreatDoor
open Go.RowKit Go.Shelf Pm
set_option maxRecDepth 100000
theorem back_long (m : Ml) (r : Rc) (s : ByteArray) (hm : m.body.size + m.ret.size + m.envid.size + m.mode.size ≤ 9000000000000000000) (hr : r.nt.size + r.kd.size + r.oc.size ≤ 9000000000000000000) (h : ((m.small && r.small) = false) ∨ ((m.small && r.small) = true ∧ 3000 < s.size)) (hs : s.size ≤ 9000000000000000000) (w : World) (hl : Lv w) :
    Calls Tryz.prog 4 #[.agg m.cells, .agg r.cells, .string s] w fun e w' => e = .returned (.bool true) ∧ Below w.heap.size w w' := by
  have haw := fun W (hW : Lv W) => awake_any W hW
  have hsm := fun W => small_ml m r hm hr W
  obtain ⟨H, hH⟩ : ∃ H, w.heap.size = H := ⟨_, rfl⟩
  have Bm : Aside (Blk ((w.alloc (.cells m.cells 25)).alloc (.cells r.cells 27)) H m.cells 25) := ⟨hH ▸ (Blk.new (w := w) m.cells 25).old _⟩
  have Br : Aside (Blk ((w.alloc (.cells m.cells 25)).alloc (.cells r.cells 27)) (H + 1) r.cells 27) := ⟨by have := Blk.new (w := w.alloc (.cells m.cells 25)) r.cells 27; rw [World.size_alloc, hH] at this; exact this⟩
  have L : Aside (Below w.heap.size w ((w.alloc (.cells m.cells 25)).alloc (.cells r.cells 27))) := ⟨((Below.refl _ w).alloc (Nat.le_refl _) _).alloc (by simp) _⟩
  rcases h with h | ⟨h, h3⟩
  · rw [h] at hsm
    go_enter Tryz.func4, Tryz.ntmps4
    go_wp2_with (first | ((with_reducible refine at_dst (N := 29) rfl ?_); refine load_blk_g H 25 (by kernel_rfl) _ (by rfl) (by rfl) m.cells 25 _ Bm.out Tryz.underlying25 rfl (by kernel_rfl) ?_) | ((with_reducible refine at_dst (N := 30) rfl ?_); refine load_blk_g (H + 1) 27 (by kernel_rfl) _ (by rfl) (by rfl) r.cells 27 _ Br.out Tryz.underlying27 rfl (by kernel_rfl) ?_) | (go_at_call 7; (with_reducible refine (haw _ (hl.next L.out)).mono ?_); rintro e w_ ⟨rfl, hb_⟩; replace L := Aside.mk (L.out.trans (hb_.mono L.out.size)); replace Bm := Aside.mk (Bm.out.below hb_); replace Br := Aside.mk (Br.out.below hb_); clear hb_) | (go_at_call 8; (with_reducible refine (hsm _).mono ?_); rintro e w_ ⟨rfl, hb_⟩; replace L := Aside.mk (L.out.trans (hb_.mono L.out.size)); clear hb_))
    go_ret
    exact ⟨rfl, L.out⟩
  · rw [h] at hsm
    have hs2 : decide ((3000 : Int) < (s.size : Int)) = true := decide_eq_true (by omega)
    go_enter Tryz.func4, Tryz.ntmps4
    go_wp2_with (first | ((with_reducible refine at_dst (N := 29) rfl ?_); refine load_blk_g H 25 (by kernel_rfl) _ (by rfl) (by rfl) m.cells 25 _ Bm.out Tryz.underlying25 rfl (by kernel_rfl) ?_) | ((with_reducible refine at_dst (N := 30) rfl ?_); refine load_blk_g (H + 1) 27 (by kernel_rfl) _ (by rfl) (by rfl) r.cells 27 _ Br.out Tryz.underlying27 rfl (by kernel_rfl) ?_) | (go_at_call 7; (with_reducible refine (haw _ (hl.next L.out)).mono ?_); rintro e w_ ⟨rfl, hb_⟩; replace L := Aside.mk (L.out.trans (hb_.mono L.out.size)); replace Bm := Aside.mk (Bm.out.below hb_); replace Br := Aside.mk (Br.out.below hb_); clear hb_) | (go_at_call 8; (with_reducible refine (hsm _).mono ?_); rintro e w_ ⟨rfl, hb_⟩; replace L := Aside.mk (L.out.trans (hb_.mono L.out.size)); clear hb_))
    go_ret
    exact ⟨rfl, L.out⟩
/-- ParamBack is true of whatever comes in. -/
theorem back_any (m : Ml) (r : Rc) (s : ByteArray) (is : I64 m.s) (iF : I64 m.f) (ib : I64 m.b) (ip : I64 m.p) (h1 : m.body.size ≤ 140737488351232) (h2 : m.ret.size ≤ 140737488351232) (h3 : m.envid.size ≤ 140737488351232) (h4 : m.mode.size ≤ 140737488351232) (h5 : r.nt.size ≤ 140737488351232) (h6 : r.kd.size ≤ 140737488351232) (h7 : r.oc.size ≤ 140737488351232) (h8 : s.size ≤ 140737488351232) (w : World) (hl : Lv w) :
    Calls Tryz.prog 4 #[.agg m.cells, .agg r.cells, .string s] w fun e w' => e = .returned (.bool true) ∧ Below w.heap.size w w' := by
  cases hsm : (m.small && r.small) with
  | false => exact back_long m r s (by omega) (by omega) (.inl hsm) (by omega) w hl
  | true =>
    by_cases hs : 3000 < s.size
    · exact back_long m r s (by omega) (by omega) (.inr ⟨hsm, hs⟩) (by omega) w hl
    · rw [Bool.and_eq_true] at hsm
      obtain ⟨k1, k2⟩ := hsm
      have j1 := of_decide_eq_true k1
      have j2 := of_decide_eq_true k2
      have fm : Fit m := ⟨is, iF, ib, ip, by omega, by omega, by omega⟩
      have he : m.right = 0 → m.envid.size ≤ 100 := fun h => (right_zero m h).1.env
      obtain ⟨x, hx⟩ : ∃ x, Pm.parseMail s = x := ⟨_, rfl⟩
      obtain ⟨x, ex⟩ := x
      obtain ⟨y, hy⟩ : ∃ y, Pm.parseRcpt s = y := ⟨_, rfl⟩
      obtain ⟨y, ey⟩ := y
      by_cases c1 : ex = 0 <;> by_cases c2 : ey = 0 <;> by_cases c3 : m.right = 0 <;> by_cases c4 : r.right = 0
      · exact back_w0 m r s (by omega) k1 k2 fm he (by omega) (by omega) x ex hx y ey hy c1 c2 c3 c4 w hl
      · exact back_w1 m r s (by omega) k1 k2 fm he (by omega) (by omega) x ex hx y ey hy c1 c2 c3 c4 w hl
      · exact back_w2 m r s (by omega) k1 k2 fm he (by omega) (by omega) x ex hx y ey hy c1 c2 c3 c4 w hl
      · exact back_w3 m r s (by omega) k1 k2 fm he (by omega) (by omega) x ex hx y ey hy c1 c2 c3 c4 w hl
      · exact back_w4 m r s (by omega) k1 k2 fm he (by omega) (by omega) x ex hx y ey hy c1 c2 c3 c4 w hl
      · exact back_w5 m r s (by omega) k1 k2 fm he (by omega) (by omega) x ex hx y ey hy c1 c2 c3 c4 w hl
      · exact back_w6 m r s (by omega) k1 k2 fm he (by omega) (by omega) x ex hx y ey hy c1 c2 c3 c4 w hl
      · exact back_w7 m r s (by omega) k1 k2 fm he (by omega) (by omega) x ex hx y ey hy c1 c2 c3 c4 w hl
      · exact back_w8 m r s (by omega) k1 k2 fm he (by omega) (by omega) x ex hx y ey hy c1 c2 c3 c4 w hl
      · exact back_w9 m r s (by omega) k1 k2 fm he (by omega) (by omega) x ex hx y ey hy c1 c2 c3 c4 w hl
      · exact back_w10 m r s (by omega) k1 k2 fm he (by omega) (by omega) x ex hx y ey hy c1 c2 c3 c4 w hl
      · exact back_w11 m r s (by omega) k1 k2 fm he (by omega) (by omega) x ex hx y ey hy c1 c2 c3 c4 w hl
      · exact back_w12 m r s (by omega) k1 k2 fm he (by omega) (by omega) x ex hx y ey hy c1 c2 c3 c4 w hl
      · exact back_w13 m r s (by omega) k1 k2 fm he (by omega) (by omega) x ex hx y ey hy c1 c2 c3 c4 w hl
      · exact back_w14 m r s (by omega) k1 k2 fm he (by omega) (by omega) x ex hx y ey hy c1 c2 c3 c4 w hl
      · exact back_w15 m r s (by omega) k1 k2 fm he (by omega) (by omega) x ex hx y ey hy c1 c2 c3 c4 w hl
theorem i64_wf {n : Int} (h : (Lit.int .i64 n).wf = true) : I64 n := by
  have h2 := h
  simp [Lit.wf, IntKind.min, IntKind.max, IntKind.signed, IntKind.bits] at h2
  unfold I64
  omega
theorem back_row (W : World) (hl : Lv W) (m : Ml) (is : I64 m.s) (iF : I64 m.f) (ib : I64 m.b) (ip : I64 m.p) (h1 : m.body.size ≤ 140737488351232) (h2 : m.ret.size ≤ 140737488351232) (h3 : m.envid.size ≤ 140737488351232) (h4 : m.mode.size ≤ 140737488351232) (r : Rc) (h5 : r.nt.size ≤ 140737488351232) (h6 : r.kd.size ≤ 140737488351232) (h7 : r.oc.size ≤ 140737488351232) (s : ByteArray) (h8 : s.size ≤ 140737488351232) :
    Calls Tryz.prog 4 #[.agg m.cells, .agg r.cells, .string s] W fun e w' => e = .returned (.bool true) ∧ Below W.heap.size W w' := back_any m r s is iF ib ip h1 h2 h3 h4 h5 h6 h7 h8 W hl
end Go.Proofs.YtfffdbjfhdkheaaGreatDoor
