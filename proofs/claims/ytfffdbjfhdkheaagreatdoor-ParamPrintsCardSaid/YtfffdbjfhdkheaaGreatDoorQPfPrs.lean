/-
  ParamPrints: its walk.
-/
import Derived.Test.YtfffdbjfhdkheaaGreatDoorQPfOf
import Derived.Test.YtfffdbjfhdkheaaGreatDoorQPfPr
import Derived.Test.YtfffdbjfhdkheaaGreatDoorQPmBk0
set_option linter.unusedVariables false
set_option linter.unusedSimpArgs false
namespace Go.Proofs.YtfffdbjfhdkheaaGreatDoor
open Go.RowKit Go.Shelf Pm
set_option maxRecDepth 100000
set_option maxHeartbeats 8000000 in
theorem prints_long (m : Ml) (r : Rc) (hm : m.body.size + m.ret.size + m.envid.size + m.mode.size ≤ 9000000000000000000) (hr : r.nt.size + r.kd.size + r.oc.size ≤ 9000000000000000000) (h : (m.small && r.small) = false) (w : World) (hl : Lv w) :
    Calls Tryz.prog 3 #[.agg m.cells, .agg r.cells] w fun e w' => e = .returned (.bool true) ∧ Below w.heap.size w w' := by
  have hsm := fun W => small_ml m r hm hr W
  rw [h] at hsm
  have haw := fun W (hW : Lv W) => awake_any W hW
  obtain ⟨H, hH⟩ : ∃ H, w.heap.size = H := ⟨_, rfl⟩
  have Bm : Aside (Blk ((w.alloc (.cells m.cells 25)).alloc (.cells r.cells 27)) H m.cells 25) := ⟨hH ▸ (Blk.new (w := w) m.cells 25).old _⟩
  have Br : Aside (Blk ((w.alloc (.cells m.cells 25)).alloc (.cells r.cells 27)) (H + 1) r.cells 27) := ⟨by have := Blk.new (w := w.alloc (.cells m.cells 25)) r.cells 27; rw [World.size_alloc, hH] at this; exact this⟩
  have L : Aside (Below w.heap.size w ((w.alloc (.cells m.cells 25)).alloc (.cells r.cells 27))) := ⟨((Below.refl _ w).alloc (Nat.le_refl _) _).alloc (by simp) _⟩
  go_enter Tryz.func3, Tryz.ntmps3
  go_wp2_with (first | (go_at_call 7; (with_reducible refine (haw _ (hl.next L.out)).mono ?_); rintro e w_ ⟨rfl, hb_⟩; replace L := Aside.mk (L.out.trans (hb_.mono L.out.size)); replace Bm := Aside.mk (Bm.out.below hb_); replace Br := Aside.mk (Br.out.below hb_); clear hb_) | (go_at_call 8; (with_reducible refine (hsm _).mono ?_); rintro e w_ ⟨rfl, hb_⟩; replace L := Aside.mk (L.out.trans (hb_.mono L.out.size)); replace Bm := Aside.mk (Bm.out.below hb_); replace Br := Aside.mk (Br.out.below hb_); clear hb_) | ((with_reducible refine at_dst (N := 15) rfl ?_); refine load_blk_g H 25 (by kernel_rfl) _ (by rfl) (by rfl) m.cells 25 _ Bm.out Tryz.underlying25 rfl (by kernel_rfl) ?_) | ((with_reducible refine at_dst (N := 16) rfl ?_); refine load_blk_g (H + 1) 27 (by kernel_rfl) _ (by rfl) (by rfl) r.cells 27 _ Br.out Tryz.underlying27 rfl (by kernel_rfl) ?_))
  go_ret
  exact ⟨rfl, L.out⟩
set_option maxHeartbeats 16000000 in
theorem prints_short (m : Ml) (r : Rc) (hm : m.small = true) (hr : r.small = true) (fm : Fit m) (w : World) (hl : Lv w) :
    Calls Tryz.prog 3 #[.agg m.cells, .agg r.cells] w fun e w' => e = .returned (.bool true) ∧ Below w.heap.size w w' := by
  have j1 := of_decide_eq_true hm
  have j2 := of_decide_eq_true hr
  have hsm := fun W => small_ml m r (by omega) (by omega) W
  rw [hm, hr] at hsm
  have hmt := fun W (hW : Lv W) => printMail_ml m fm W hW
  have hmu := fun W => refPrintMail_any m W
  have hrt := fun W => printRcpt_rc r (by omega) (by omega) W
  have hru := fun W => refPrintRcpt_any r (by omega) (by omega) W
  have hmr : ∀ W, Calls Tryz.prog 14 #[.agg m.cells] W fun e w' => e = .returned (.int .i64 m.right) ∧ Below W.heap.size W w' := fun W => rightMail_any m.hS m.hF m.hU m.hB m.hP m.s m.f m.u m.b m.p m.body m.ret m.envid m.mode W
  have hrr : ∀ W, Calls Tryz.prog 15 #[.agg r.cells] W fun e w' => e = .returned (.int .i64 r.right) ∧ Below W.heap.size W w' := fun W => rightRcpt_any r.nt r.kd r.oc W (by omega)
  have hof := fun W => of_ml m W
  obtain ⟨tm, htm⟩ : ∃ t, (if m.right = 0 then m.text else (⟨#[]⟩ : ByteArray)) = t := ⟨_, rfl⟩
  obtain ⟨tr, htr⟩ : ∃ t, (if r.right = 0 then r.text else (⟨#[]⟩ : ByteArray)) = t := ⟨_, rfl⟩
  rw [htm] at hmt hmu
  rw [htr] at hrt hru
  obtain ⟨em, hem⟩ : ∃ t, m.right = t := ⟨_, rfl⟩
  obtain ⟨er, her⟩ : ∃ t, r.right = t := ⟨_, rfl⟩
  rw [hem] at hmt hmu hmr
  rw [her] at hrt hru hrr
  clear htm htr hem her fm j1 j2 hm hr
  have haw := fun W (hW : Lv W) => awake_any W hW
  obtain ⟨H, hH⟩ : ∃ H, w.heap.size = H := ⟨_, rfl⟩
  have Bm : Aside (Blk ((w.alloc (.cells m.cells 25)).alloc (.cells r.cells 27)) H m.cells 25) := ⟨hH ▸ (Blk.new (w := w) m.cells 25).old _⟩
  have Br : Aside (Blk ((w.alloc (.cells m.cells 25)).alloc (.cells r.cells 27)) (H + 1) r.cells 27) := ⟨by have := Blk.new (w := w.alloc (.cells m.cells 25)) r.cells 27; rw [World.size_alloc, hH] at this; exact this⟩
  have L : Aside (Below w.heap.size w ((w.alloc (.cells m.cells 25)).alloc (.cells r.cells 27))) := ⟨((Below.refl _ w).alloc (Nat.le_refl _) _).alloc (by simp) _⟩
  go_enter Tryz.func3, Tryz.ntmps3
  go_wp2_with (first | (go_at_call 7; (with_reducible refine (haw _ (hl.next L.out)).mono ?_); rintro e w_ ⟨rfl, hb_⟩; replace L := Aside.mk (L.out.trans (hb_.mono L.out.size)); replace Bm := Aside.mk (Bm.out.below hb_); replace Br := Aside.mk (Br.out.below hb_); clear hb_) | (go_at_call 8; (with_reducible refine (hsm _).mono ?_); rintro e w_ ⟨rfl, hb_⟩; replace L := Aside.mk (L.out.trans (hb_.mono L.out.size)); replace Bm := Aside.mk (Bm.out.below hb_); replace Br := Aside.mk (Br.out.below hb_); clear hb_) | (go_at_call 9; (with_reducible refine (hmt _ (hl.next L.out)).mono ?_); rintro e w_ ⟨rfl, hb_⟩; replace L := Aside.mk (L.out.trans (hb_.mono L.out.size)); replace Bm := Aside.mk (Bm.out.below hb_); replace Br := Aside.mk (Br.out.below hb_); clear hb_) | (go_at_call 11; (with_reducible refine (hof _).mono ?_); rintro e w_ ⟨rfl, hb_⟩; replace L := Aside.mk (L.out.trans (hb_.mono L.out.size)); replace Bm := Aside.mk (Bm.out.below hb_); replace Br := Aside.mk (Br.out.below hb_); clear hb_) | (go_at_call 10; (with_reducible refine (hmu _).mono ?_); rintro e w_ ⟨rfl, hb_⟩; replace L := Aside.mk (L.out.trans (hb_.mono L.out.size)); replace Bm := Aside.mk (Bm.out.below hb_); replace Br := Aside.mk (Br.out.below hb_); clear hb_) | (go_at_call 12; (with_reducible refine (hrt _).mono ?_); rintro e w_ ⟨rfl, hb_⟩; replace L := Aside.mk (L.out.trans (hb_.mono L.out.size)); replace Bm := Aside.mk (Bm.out.below hb_); replace Br := Aside.mk (Br.out.below hb_); clear hb_) | (go_at_call 13; (with_reducible refine (hru _).mono ?_); rintro e w_ ⟨rfl, hb_⟩; replace L := Aside.mk (L.out.trans (hb_.mono L.out.size)); replace Bm := Aside.mk (Bm.out.below hb_); replace Br := Aside.mk (Br.out.below hb_); clear hb_) | (go_at_call 14; (with_reducible refine (hmr _).mono ?_); rintro e w_ ⟨rfl, hb_⟩; replace L := Aside.mk (L.out.trans (hb_.mono L.out.size)); replace Bm := Aside.mk (Bm.out.below hb_); replace Br := Aside.mk (Br.out.below hb_); clear hb_) | (go_at_call 15; (with_reducible refine (hrr _).mono ?_); rintro e w_ ⟨rfl, hb_⟩; replace L := Aside.mk (L.out.trans (hb_.mono L.out.size)); replace Bm := Aside.mk (Bm.out.below hb_); replace Br := Aside.mk (Br.out.below hb_); clear hb_) | ((with_reducible refine at_dst (N := 15) rfl ?_); refine load_blk_g H 25 (by kernel_rfl) _ (by rfl) (by rfl) m.cells 25 _ Bm.out Tryz.underlying25 rfl (by kernel_rfl) ?_) | ((with_reducible refine at_dst (N := 20) rfl ?_); refine load_blk_g H 25 (by kernel_rfl) _ (by rfl) (by rfl) m.cells 25 _ Bm.out Tryz.underlying25 rfl (by kernel_rfl) ?_) | ((with_reducible refine at_dst (N := 25) rfl ?_); refine load_blk_g H 25 (by kernel_rfl) _ (by rfl) (by rfl) m.cells 25 _ Bm.out Tryz.underlying25 rfl (by kernel_rfl) ?_) | ((with_reducible refine at_dst (N := 49) rfl ?_); refine load_blk_g H 25 (by kernel_rfl) _ (by rfl) (by rfl) m.cells 25 _ Bm.out Tryz.underlying25 rfl (by kernel_rfl) ?_) | ((with_reducible refine at_dst (N := 16) rfl ?_); refine load_blk_g (H + 1) 27 (by kernel_rfl) _ (by rfl) (by rfl) r.cells 27 _ Br.out Tryz.underlying27 rfl (by kernel_rfl) ?_) | ((with_reducible refine at_dst (N := 31) rfl ?_); refine load_blk_g (H + 1) 27 (by kernel_rfl) _ (by rfl) (by rfl) r.cells 27 _ Br.out Tryz.underlying27 rfl (by kernel_rfl) ?_) | ((with_reducible refine at_dst (N := 36) rfl ?_); refine load_blk_g (H + 1) 27 (by kernel_rfl) _ (by rfl) (by rfl) r.cells 27 _ Br.out Tryz.underlying27 rfl (by kernel_rfl) ?_) | ((with_reducible refine at_dst (N := 65) rfl ?_); refine load_blk_g (H + 1) 27 (by kernel_rfl) _ (by rfl) (by rfl) r.cells 27 _ Br.out Tryz.underlying27 rfl (by kernel_rfl) ?_))
  go_ret
  exact ⟨rfl, L.out⟩
theorem i64_wf {n : Int} (h : (Lit.int .i64 n).wf = true) : I64 n := by
  have h2 := h
  simp [Lit.wf, IntKind.min, IntKind.max, IntKind.signed, IntKind.bits] at h2
  unfold I64
  omega
theorem prints_row (W : World) (hl : Lv W) (m : Ml) (is : I64 m.s) (iF : I64 m.f) (ib : I64 m.b) (ip : I64 m.p) (h1 : m.body.size ≤ 140737488351232) (h2 : m.ret.size ≤ 140737488351232) (h3 : m.envid.size ≤ 140737488351232) (h4 : m.mode.size ≤ 140737488351232) (r : Rc) (h5 : r.nt.size ≤ 140737488351232) (h6 : r.kd.size ≤ 140737488351232) (h7 : r.oc.size ≤ 140737488351232) :
    Calls Tryz.prog 3 #[.agg m.cells, .agg r.cells] W fun e w' => e = .returned (.bool true) ∧ Below W.heap.size W w' := by
  cases hsm : (m.small && r.small) with
  | false => exact prints_long m r (by omega) (by omega) hsm W hl
  | true =>
    rw [Bool.and_eq_true] at hsm
    obtain ⟨k1, k2⟩ := hsm
    have j1 := of_decide_eq_true k1
    exact prints_short m r k1 k2 ⟨is, iF, ib, ip, by omega, by omega, by omega⟩ W hl
end Go.Proofs.YtfffdbjfhdkheaaGreatDoor
