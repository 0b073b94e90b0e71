/-
  ParamBack: its walk (part 3).
-/
import Derived.Test.YtfffdbjfhdkheaaGreatDoorQPmBk0
import Derived.Test.YtfffdbjfhdkheaaGreatDoorQ1
import Derived.Test.YtfffdbjfhdkheaaGreatDoorQPmBk1
set_option linter.unusedVariables false
set_option linter.unusedSimpArgs false
namespace Go.Proofs.YtfffdbjfhdkheaaGreatDoor
open Go.RowKit Go.Shelf Pm
set_option maxRecDepth 100000
set_option maxHeartbeats 16000000 in
theorem back_w8 (m : Ml) (r : Rc) (s : ByteArray) (hs : s.size ≤ 3000) (hm : m.small = true) (hr : r.small = true) (fm : Fit m) (he : m.right = 0 → m.envid.size ≤ 100) (rk : r.kd.size ≤ 2000) (ro : r.oc.size ≤ 2000) (x : Ml) (ex : Int) (hx : Pm.parseMail s = (x, ex)) (y : Rc) (ey : Int) (hy : Pm.parseRcpt s = (y, ey))
    (cx : ex ≠ 0) (cy : ey = 0) (cm : m.right = 0) (cr : r.right = 0) (w : World) (hl : Lv w) :
    Calls Tryz.prog 4 #[.agg m.cells, .agg r.cells, .string s] w fun e w' => e = .returned (.bool true) ∧ Below w.heap.size w w' := by
  have haw := fun W (hW : Lv W) => awake_any W hW
  have hsm := fun W => small_ml m r (by have := of_decide_eq_true hm; omega) (by have := of_decide_eq_true hr; omega) W
  rw [hm, hr] at hsm
  have hpm := fun W (hW : Lv W) => parseMail_any s (by omega) W hW
  have hpr := fun W (hW : Lv W) => parseRcpt_any s (by omega) W hW
  subst cy
  have ky : y.right = 0 := by have := Pm.rparse_right s (by rw [hy]); rwa [hy] at this
  have oy := rright_zero y ky
  have ykd : y.kd.size ≤ 2000 := by
    rcases oy.ko with k | k
    · rw [k.1]; decide
    · have := k.2.2.1
      unfold typed at this
      rw [Bool.and_eq_true, decide_eq_true_eq] at this
      have h2 : y.kd.data.toList.length = y.kd.size := by simp
      omega
  have yoc : y.oc.size ≤ 2000 := by
    rcases oy.ko with k | k
    · rw [k.2]; decide
    · omega
  have hyt := fun W => printRcpt_rc y ykd yoc W
  rw [ky, if_pos rfl] at hyt
  have hyp := fun W (hW : Lv W) => parseRcpt_any y.text (by have := rtext_size y ykd yoc; omega) W hW
  rw [Pm.rparse_printed y ky] at hyp
  rw [hx] at hpm
  rw [hy] at hpr
  have hmt := fun W (hW : Lv W) => printMail_ml m fm W hW
  have hrt := fun W => printRcpt_rc r rk ro W
  rw [cm, if_pos rfl] at hmt
  have hmp := fun W (hW : Lv W) => parseMail_any m.text (by have := text_size m fm (he cm); omega) W hW
  rw [Pm.parse_printed m cm] at hmp
  rw [cr, if_pos rfl] at hrt
  have hrp := fun W (hW : Lv W) => parseRcpt_any r.text (by have := rtext_size r rk ro; omega) W hW
  rw [Pm.rparse_printed r cr] at hrp
  have bx1 : (ex == 0) = false := by simpa using cx
  have bx2 : (ex != 0) = true := by simpa using cx
  obtain ⟨ty, hty⟩ : ∃ ty, y.text = ty := ⟨_, rfl⟩
  rw [hty] at hyt hyp
  obtain ⟨tm, htm⟩ : ∃ tm, m.text = tm := ⟨_, rfl⟩
  rw [htm] at hmt hmp
  obtain ⟨tr, htr⟩ : ∃ tr, r.text = tr := ⟨_, rfl⟩
  rw [htr] at hrt hrp
  clear fm rk ro hx hy he hm hr
  have hs2 : decide ((3000 : Int) < (s.size : Int)) = false := decide_eq_false (by omega)
  clear ky oy ykd yoc hty cm htm cr htr cx
  dsimp only at hpm hpr hyp hmp hrp
  obtain ⟨H, hH⟩ : ∃ H, w.heap.size = H := ⟨_, rfl⟩
  have Bm : Aside (Blk ((w.alloc (.cells m.cells 25)).alloc (.cells r.cells 27)) H m.cells 25) := ⟨hH ▸ (Blk.new (w := w) m.cells 25).old _⟩
  have Br : Aside (Blk ((w.alloc (.cells m.cells 25)).alloc (.cells r.cells 27)) (H + 1) r.cells 27) := ⟨by have := Blk.new (w := w.alloc (.cells m.cells 25)) r.cells 27; rw [World.size_alloc, hH] at this; exact this⟩
  have L : Aside (Below w.heap.size w ((w.alloc (.cells m.cells 25)).alloc (.cells r.cells 27))) := ⟨((Below.refl _ w).alloc (Nat.le_refl _) _).alloc (by simp) _⟩
  go_enter Tryz.func4, Tryz.ntmps4
  go_wp2_with (first | (go_at_call 7; (with_reducible refine (haw _ (hl.next (by first | exact L.out | exact L.out.alloc L.out.size _))).mono ?_); rintro e w_ ⟨rfl, hb_⟩; replace L := Aside.mk ((by first | exact L.out | exact L.out.alloc L.out.size _ : Below w.heap.size w _).trans (hb_.mono (by first | exact L.out.size | (simp; have := L.out.size; omega)))); replace Bm := Aside.mk ((by first | exact Bm.out | exact Bm.out.old _ : Blk _ H m.cells 25).below hb_); replace Br := Aside.mk ((by first | exact Br.out | exact Br.out.old _ : Blk _ (H + 1) r.cells 27).below hb_); clear hb_) | (go_at_call 8; (with_reducible refine (hsm _).mono ?_); rintro e w_ ⟨rfl, hb_⟩; replace L := Aside.mk ((by first | exact L.out | exact L.out.alloc L.out.size _ : Below w.heap.size w _).trans (hb_.mono (by first | exact L.out.size | (simp; have := L.out.size; omega)))); replace Bm := Aside.mk ((by first | exact Bm.out | exact Bm.out.old _ : Blk _ H m.cells 25).below hb_); replace Br := Aside.mk ((by first | exact Br.out | exact Br.out.old _ : Blk _ (H + 1) r.cells 27).below hb_); clear hb_) | ((with_reducible refine at_dst (N := 29) rfl ?_); refine load_blk_g H 25 (by kernel_rfl) _ (by rfl) (by rfl) m.cells 25 _ (by first | exact Bm.out | exact Bm.out.old _) Tryz.underlying25 rfl (by kernel_rfl) ?_) | ((with_reducible refine at_dst (N := 95) rfl ?_); refine load_blk_g H 25 (by kernel_rfl) _ (by rfl) (by rfl) m.cells 25 _ (by first | exact Bm.out | exact Bm.out.old _) Tryz.underlying25 rfl (by kernel_rfl) ?_) | ((with_reducible refine at_dst (N := 110) rfl ?_); refine load_blk_g H 25 (by kernel_rfl) _ (by rfl) (by rfl) m.cells 25 _ (by first | exact Bm.out | exact Bm.out.old _) Tryz.underlying25 rfl (by kernel_rfl) ?_) | ((with_reducible refine at_dst (N := 30) rfl ?_); refine load_blk_g (H + 1) 27 (by kernel_rfl) _ (by rfl) (by rfl) r.cells 27 _ (by first | exact Br.out | exact Br.out.old _) Tryz.underlying27 rfl (by kernel_rfl) ?_) | ((with_reducible refine at_dst (N := 114) rfl ?_); refine load_blk_g (H + 1) 27 (by kernel_rfl) _ (by rfl) (by rfl) r.cells 27 _ (by first | exact Br.out | exact Br.out.old _) Tryz.underlying27 rfl (by kernel_rfl) ?_) | ((with_reducible refine at_dst (N := 129) rfl ?_); refine load_blk_g (H + 1) 27 (by kernel_rfl) _ (by rfl) (by rfl) r.cells 27 _ (by first | exact Br.out | exact Br.out.old _) Tryz.underlying27 rfl (by kernel_rfl) ?_) | (go_at_call 16; (with_reducible refine (hpm _ (hl.next (by first | exact L.out | exact L.out.alloc L.out.size _))).mono ?_); rintro e w_ ⟨rfl, hb_⟩; replace L := Aside.mk ((by first | exact L.out | exact L.out.alloc L.out.size _ : Below w.heap.size w _).trans (hb_.mono (by first | exact L.out.size | (simp; have := L.out.size; omega)))); replace Bm := Aside.mk ((by first | exact Bm.out | exact Bm.out.old _ : Blk _ H m.cells 25).below hb_); replace Br := Aside.mk ((by first | exact Br.out | exact Br.out.old _ : Blk _ (H + 1) r.cells 27).below hb_); obtain ⟨bx, hbx⟩ : ∃ bx, w_.heap.size = bx := ⟨_, rfl⟩; clear hb_) | (go_at_call 17; (with_reducible refine (hpr _ (hl.next (by first | exact L.out | exact L.out.alloc L.out.size _))).mono ?_); rintro e w_ ⟨rfl, hb_⟩; replace L := Aside.mk ((by first | exact L.out | exact L.out.alloc L.out.size _ : Below w.heap.size w _).trans (hb_.mono (by first | exact L.out.size | (simp; have := L.out.size; omega)))); replace Bm := Aside.mk ((by first | exact Bm.out | exact Bm.out.old _ : Blk _ H m.cells 25).below hb_); replace Br := Aside.mk ((by first | exact Br.out | exact Br.out.old _ : Blk _ (H + 1) r.cells 27).below hb_); obtain ⟨cx, hcx⟩ : ∃ cx, w_.heap.size = cx := ⟨_, rfl⟩; clear hb_) | ((with_reducible refine at_dst (N := 74) rfl ?_); refine load_blk_g cx 27 (by kernel_rfl) _ (by rfl) (by rfl) y.cells 27 _ (by first | exact blk_at hcx | exact Bcx.out | exact Bcx.out.old _) Tryz.underlying27 rfl (by kernel_rfl) ?_) | ((with_reducible refine at_dst (N := 90) rfl ?_); refine load_blk_g cx 27 (by kernel_rfl) _ (by rfl) (by rfl) y.cells 27 _ (by first | exact blk_at hcx | exact Bcx.out | exact Bcx.out.old _) Tryz.underlying27 rfl (by kernel_rfl) ?_) | (go_at_call 12; (with_reducible refine (hyt _).mono ?_); rintro e w_ ⟨rfl, hb_⟩; replace L := Aside.mk ((by first | exact L.out | exact L.out.alloc L.out.size _ : Below w.heap.size w _).trans (hb_.mono (by first | exact L.out.size | (simp; have := L.out.size; omega)))); replace Bm := Aside.mk ((by first | exact Bm.out | exact Bm.out.old _ : Blk _ H m.cells 25).below hb_); replace Br := Aside.mk ((by first | exact Br.out | exact Br.out.old _ : Blk _ (H + 1) r.cells 27).below hb_); have Bcx := Aside.mk (blk_named hb_ cx hcx); clear hcx; clear hb_) | (go_at_call 17; (with_reducible refine (hyp _ (hl.next (by first | exact L.out | exact L.out.alloc L.out.size _))).mono ?_); rintro e w_ ⟨rfl, hb_⟩; replace L := Aside.mk ((by first | exact L.out | exact L.out.alloc L.out.size _ : Below w.heap.size w _).trans (hb_.mono (by first | exact L.out.size | (simp; have := L.out.size; omega)))); replace Bm := Aside.mk ((by first | exact Bm.out | exact Bm.out.old _ : Blk _ H m.cells 25).below hb_); replace Br := Aside.mk ((by first | exact Br.out | exact Br.out.old _ : Blk _ (H + 1) r.cells 27).below hb_); replace Bcx := Aside.mk (Bcx.out.below hb_); obtain ⟨cz, hcz⟩ : ∃ cz, w_.heap.size = cz := ⟨_, rfl⟩; clear hb_) | ((with_reducible refine at_dst (N := 91) rfl ?_); refine load_blk_g cz 27 (by kernel_rfl) _ (by rfl) (by rfl) y.cells 27 _ (blk_at hcz) Tryz.underlying27 rfl (by kernel_rfl) ?_) | ((with_reducible refine at_dst (N := 92) rfl ?_); refine step_value_g (by kernel_rfl) (.bool false) (neq_rc y _ _ _ _ _ _ (by rfl) (by rfl) (by rfl)) ?_) | (go_at_call 9; (with_reducible refine (hmt _ (hl.next (by first | exact L.out | exact L.out.alloc L.out.size _))).mono ?_); rintro e w_ ⟨rfl, hb_⟩; replace L := Aside.mk ((by first | exact L.out | exact L.out.alloc L.out.size _ : Below w.heap.size w _).trans (hb_.mono (by first | exact L.out.size | (simp; have := L.out.size; omega)))); replace Bm := Aside.mk ((by first | exact Bm.out | exact Bm.out.old _ : Blk _ H m.cells 25).below hb_); replace Br := Aside.mk ((by first | exact Br.out | exact Br.out.old _ : Blk _ (H + 1) r.cells 27).below hb_); clear hb_) | (go_at_call 16; (with_reducible refine (hmp _ (hl.next (by first | exact L.out | exact L.out.alloc L.out.size _))).mono ?_); rintro e w_ ⟨rfl, hb_⟩; replace L := Aside.mk ((by first | exact L.out | exact L.out.alloc L.out.size _ : Below w.heap.size w _).trans (hb_.mono (by first | exact L.out.size | (simp; have := L.out.size; omega)))); replace Bm := Aside.mk ((by first | exact Bm.out | exact Bm.out.old _ : Blk _ H m.cells 25).below hb_); replace Br := Aside.mk ((by first | exact Br.out | exact Br.out.old _ : Blk _ (H + 1) r.cells 27).below hb_); obtain ⟨bq, hbq⟩ : ∃ bq, w_.heap.size = bq := ⟨_, rfl⟩; clear hb_) | ((with_reducible refine at_dst (N := 109) rfl ?_); refine load_blk_g bq 25 (by kernel_rfl) _ (by rfl) (by rfl) m.cells 25 _ (blk_at hbq) Tryz.underlying25 rfl (by kernel_rfl) ?_) | ((with_reducible refine at_dst (N := 111) rfl ?_); refine step_value_g (by kernel_rfl) (.bool false) (neq_ml m _ _ _ _ _ _ (by rfl) (by rfl) (by rfl)) ?_) | (go_at_call 12; (with_reducible refine (hrt _).mono ?_); rintro e w_ ⟨rfl, hb_⟩; replace L := Aside.mk ((by first | exact L.out | exact L.out.alloc L.out.size _ : Below w.heap.size w _).trans (hb_.mono (by first | exact L.out.size | (simp; have := L.out.size; omega)))); replace Bm := Aside.mk ((by first | exact Bm.out | exact Bm.out.old _ : Blk _ H m.cells 25).below hb_); replace Br := Aside.mk ((by first | exact Br.out | exact Br.out.old _ : Blk _ (H + 1) r.cells 27).below hb_); clear hb_) | (go_at_call 17; (with_reducible refine (hrp _ (hl.next (by first | exact L.out | exact L.out.alloc L.out.size _))).mono ?_); rintro e w_ ⟨rfl, hb_⟩; replace L := Aside.mk ((by first | exact L.out | exact L.out.alloc L.out.size _ : Below w.heap.size w _).trans (hb_.mono (by first | exact L.out.size | (simp; have := L.out.size; omega)))); replace Bm := Aside.mk ((by first | exact Bm.out | exact Bm.out.old _ : Blk _ H m.cells 25).below hb_); replace Br := Aside.mk ((by first | exact Br.out | exact Br.out.old _ : Blk _ (H + 1) r.cells 27).below hb_); obtain ⟨cq, hcq⟩ : ∃ cq, w_.heap.size = cq := ⟨_, rfl⟩; clear hb_) | ((with_reducible refine at_dst (N := 128) rfl ?_); refine load_blk_g cq 27 (by kernel_rfl) _ (by rfl) (by rfl) r.cells 27 _ (blk_at hcq) Tryz.underlying27 rfl (by kernel_rfl) ?_) | ((with_reducible refine at_dst (N := 130) rfl ?_); refine step_value_g (by kernel_rfl) (.bool false) (neq_rc r _ _ _ _ _ _ (by rfl) (by rfl) (by rfl)) ?_) | ((with_reducible refine at_store (p := 7) rfl ?_); refine store_new rfl 25 _ _ _ x.cells (by rfl) bx hbx (by rfl) (by rfl) (by kernel_rfl) rfl (ml_one _) ?_) | ((with_reducible refine at_store (p := 13) rfl ?_); refine store_new rfl 27 _ _ _ y.cells (by rfl) cx hcx (by rfl) (by rfl) (by kernel_rfl) rfl (rc_one _) ?_) | ((with_reducible refine at_store (p := 17) rfl ?_); refine store_new rfl 27 _ _ _ y.cells (by rfl) cz hcz (by rfl) (by rfl) (by kernel_rfl) rfl (rc_one _) ?_) | ((with_reducible refine at_store (p := 21) rfl ?_); refine store_new rfl 25 _ _ _ m.cells (by rfl) bq hbq (by rfl) (by rfl) (by kernel_rfl) rfl (ml_one _) ?_) | ((with_reducible refine at_store (p := 25) rfl ?_); refine store_new rfl 27 _ _ _ r.cells (by rfl) cq hcq (by rfl) (by rfl) (by kernel_rfl) rfl (rc_one _) ?_))
  all_goals
    go_ret
    exact ⟨rfl, by first | exact L.out | exact L.out.alloc L.out.size _⟩
set_option maxHeartbeats 16000000 in
theorem back_w9 (m : Ml) (r : Rc) (s : ByteArray) (hs : s.size ≤ 3000) (hm : m.small = true) (hr : r.small = true) (fm : Fit m) (he : m.right = 0 → m.envid.size ≤ 100) (rk : r.kd.size ≤ 2000) (ro : r.oc.size ≤ 2000) (x : Ml) (ex : Int) (hx : Pm.parseMail s = (x, ex)) (y : Rc) (ey : Int) (hy : Pm.parseRcpt s = (y, ey))
    (cx : ex ≠ 0) (cy : ey = 0) (cm : m.right = 0) (cr : r.right ≠ 0) (w : World) (hl : Lv w) :
    Calls Tryz.prog 4 #[.agg m.cells, .agg r.cells, .string s] w fun e w' => e = .returned (.bool true) ∧ Below w.heap.size w w' := by
  have haw := fun W (hW : Lv W) => awake_any W hW
  have hsm := fun W => small_ml m r (by have := of_decide_eq_true hm; omega) (by have := of_decide_eq_true hr; omega) W
  rw [hm, hr] at hsm
  have hpm := fun W (hW : Lv W) => parseMail_any s (by omega) W hW
  have hpr := fun W (hW : Lv W) => parseRcpt_any s (by omega) W hW
  subst cy
  have ky : y.right = 0 := by have := Pm.rparse_right s (by rw [hy]); rwa [hy] at this
  have oy := rright_zero y ky
  have ykd : y.kd.size ≤ 2000 := by
    rcases oy.ko with k | k
    · rw [k.1]; decide
    · have := k.2.2.1
      unfold typed at this
      rw [Bool.and_eq_true, decide_eq_true_eq] at this
      have h2 : y.kd.data.toList.length = y.kd.size := by simp
      omega
  have yoc : y.oc.size ≤ 2000 := by
    rcases oy.ko with k | k
    · rw [k.2]; decide
    · omega
  have hyt := fun W => printRcpt_rc y ykd yoc W
  rw [ky, if_pos rfl] at hyt
  have hyp := fun W (hW : Lv W) => parseRcpt_any y.text (by have := rtext_size y ykd yoc; omega) W hW
  rw [Pm.rparse_printed y ky] at hyp
  rw [hx] at hpm
  rw [hy] at hpr
  have hmt := fun W (hW : Lv W) => printMail_ml m fm W hW
  have hrt := fun W => printRcpt_rc r rk ro W
  rw [cm, if_pos rfl] at hmt
  have hmp := fun W (hW : Lv W) => parseMail_any m.text (by have := text_size m fm (he cm); omega) W hW
  rw [Pm.parse_printed m cm] at hmp
  rw [if_neg cr] at hrt
  obtain ⟨er, her⟩ : ∃ er, r.right = er := ⟨_, rfl⟩
  rw [her] at hrt cr
  have bx1 : (ex == 0) = false := by simpa using cx
  have bx2 : (ex != 0) = true := by simpa using cx
  have br1 : (er == 0) = false := by simpa using cr
  obtain ⟨ty, hty⟩ : ∃ ty, y.text = ty := ⟨_, rfl⟩
  rw [hty] at hyt hyp
  obtain ⟨tm, htm⟩ : ∃ tm, m.text = tm := ⟨_, rfl⟩
  rw [htm] at hmt hmp
  clear fm rk ro hx hy he hm hr
  have hs2 : decide ((3000 : Int) < (s.size : Int)) = false := decide_eq_false (by omega)
  clear ky oy ykd yoc hty cm htm cr her cx
  dsimp only at hpm hpr hyp hmp
  obtain ⟨H, hH⟩ : ∃ H, w.heap.size = H := ⟨_, rfl⟩
  have Bm : Aside (Blk ((w.alloc (.cells m.cells 25)).alloc (.cells r.cells 27)) H m.cells 25) := ⟨hH ▸ (Blk.new (w := w) m.cells 25).old _⟩
  have Br : Aside (Blk ((w.alloc (.cells m.cells 25)).alloc (.cells r.cells 27)) (H + 1) r.cells 27) := ⟨by have := Blk.new (w := w.alloc (.cells m.cells 25)) r.cells 27; rw [World.size_alloc, hH] at this; exact this⟩
  have L : Aside (Below w.heap.size w ((w.alloc (.cells m.cells 25)).alloc (.cells r.cells 27))) := ⟨((Below.refl _ w).alloc (Nat.le_refl _) _).alloc (by simp) _⟩
  go_enter Tryz.func4, Tryz.ntmps4
  go_wp2_with (first | (go_at_call 7; (with_reducible refine (haw _ (hl.next (by first | exact L.out | exact L.out.alloc L.out.size _))).mono ?_); rintro e w_ ⟨rfl, hb_⟩; replace L := Aside.mk ((by first | exact L.out | exact L.out.alloc L.out.size _ : Below w.heap.size w _).trans (hb_.mono (by first | exact L.out.size | (simp; have := L.out.size; omega)))); replace Bm := Aside.mk ((by first | exact Bm.out | exact Bm.out.old _ : Blk _ H m.cells 25).below hb_); replace Br := Aside.mk ((by first | exact Br.out | exact Br.out.old _ : Blk _ (H + 1) r.cells 27).below hb_); clear hb_) | (go_at_call 8; (with_reducible refine (hsm _).mono ?_); rintro e w_ ⟨rfl, hb_⟩; replace L := Aside.mk ((by first | exact L.out | exact L.out.alloc L.out.size _ : Below w.heap.size w _).trans (hb_.mono (by first | exact L.out.size | (simp; have := L.out.size; omega)))); replace Bm := Aside.mk ((by first | exact Bm.out | exact Bm.out.old _ : Blk _ H m.cells 25).below hb_); replace Br := Aside.mk ((by first | exact Br.out | exact Br.out.old _ : Blk _ (H + 1) r.cells 27).below hb_); clear hb_) | ((with_reducible refine at_dst (N := 29) rfl ?_); refine load_blk_g H 25 (by kernel_rfl) _ (by rfl) (by rfl) m.cells 25 _ (by first | exact Bm.out | exact Bm.out.old _) Tryz.underlying25 rfl (by kernel_rfl) ?_) | ((with_reducible refine at_dst (N := 95) rfl ?_); refine load_blk_g H 25 (by kernel_rfl) _ (by rfl) (by rfl) m.cells 25 _ (by first | exact Bm.out | exact Bm.out.old _) Tryz.underlying25 rfl (by kernel_rfl) ?_) | ((with_reducible refine at_dst (N := 110) rfl ?_); refine load_blk_g H 25 (by kernel_rfl) _ (by rfl) (by rfl) m.cells 25 _ (by first | exact Bm.out | exact Bm.out.old _) Tryz.underlying25 rfl (by kernel_rfl) ?_) | ((with_reducible refine at_dst (N := 30) rfl ?_); refine load_blk_g (H + 1) 27 (by kernel_rfl) _ (by rfl) (by rfl) r.cells 27 _ (by first | exact Br.out | exact Br.out.old _) Tryz.underlying27 rfl (by kernel_rfl) ?_) | ((with_reducible refine at_dst (N := 114) rfl ?_); refine load_blk_g (H + 1) 27 (by kernel_rfl) _ (by rfl) (by rfl) r.cells 27 _ (by first | exact Br.out | exact Br.out.old _) Tryz.underlying27 rfl (by kernel_rfl) ?_) | ((with_reducible refine at_dst (N := 129) rfl ?_); refine load_blk_g (H + 1) 27 (by kernel_rfl) _ (by rfl) (by rfl) r.cells 27 _ (by first | exact Br.out | exact Br.out.old _) Tryz.underlying27 rfl (by kernel_rfl) ?_) | (go_at_call 16; (with_reducible refine (hpm _ (hl.next (by first | exact L.out | exact L.out.alloc L.out.size _))).mono ?_); rintro e w_ ⟨rfl, hb_⟩; replace L := Aside.mk ((by first | exact L.out | exact L.out.alloc L.out.size _ : Below w.heap.size w _).trans (hb_.mono (by first | exact L.out.size | (simp; have := L.out.size; omega)))); replace Bm := Aside.mk ((by first | exact Bm.out | exact Bm.out.old _ : Blk _ H m.cells 25).below hb_); replace Br := Aside.mk ((by first | exact Br.out | exact Br.out.old _ : Blk _ (H + 1) r.cells 27).below hb_); obtain ⟨bx, hbx⟩ : ∃ bx, w_.heap.size = bx := ⟨_, rfl⟩; clear hb_) | (go_at_call 17; (with_reducible refine (hpr _ (hl.next (by first | exact L.out | exact L.out.alloc L.out.size _))).mono ?_); rintro e w_ ⟨rfl, hb_⟩; replace L := Aside.mk ((by first | exact L.out | exact L.out.alloc L.out.size _ : Below w.heap.size w _).trans (hb_.mono (by first | exact L.out.size | (simp; have := L.out.size; omega)))); replace Bm := Aside.mk ((by first | exact Bm.out | exact Bm.out.old _ : Blk _ H m.cells 25).below hb_); replace Br := Aside.mk ((by first | exact Br.out | exact Br.out.old _ : Blk _ (H + 1) r.cells 27).below hb_); obtain ⟨cx, hcx⟩ : ∃ cx, w_.heap.size = cx := ⟨_, rfl⟩; clear hb_) | ((with_reducible refine at_dst (N := 74) rfl ?_); refine load_blk_g cx 27 (by kernel_rfl) _ (by rfl) (by rfl) y.cells 27 _ (by first | exact blk_at hcx | exact Bcx.out | exact Bcx.out.old _) Tryz.underlying27 rfl (by kernel_rfl) ?_) | ((with_reducible refine at_dst (N := 90) rfl ?_); refine load_blk_g cx 27 (by kernel_rfl) _ (by rfl) (by rfl) y.cells 27 _ (by first | exact blk_at hcx | exact Bcx.out | exact Bcx.out.old _) Tryz.underlying27 rfl (by kernel_rfl) ?_) | (go_at_call 12; (with_reducible refine (hyt _).mono ?_); rintro e w_ ⟨rfl, hb_⟩; replace L := Aside.mk ((by first | exact L.out | exact L.out.alloc L.out.size _ : Below w.heap.size w _).trans (hb_.mono (by first | exact L.out.size | (simp; have := L.out.size; omega)))); replace Bm := Aside.mk ((by first | exact Bm.out | exact Bm.out.old _ : Blk _ H m.cells 25).below hb_); replace Br := Aside.mk ((by first | exact Br.out | exact Br.out.old _ : Blk _ (H + 1) r.cells 27).below hb_); have Bcx := Aside.mk (blk_named hb_ cx hcx); clear hcx; clear hb_) | (go_at_call 17; (with_reducible refine (hyp _ (hl.next (by first | exact L.out | exact L.out.alloc L.out.size _))).mono ?_); rintro e w_ ⟨rfl, hb_⟩; replace L := Aside.mk ((by first | exact L.out | exact L.out.alloc L.out.size _ : Below w.heap.size w _).trans (hb_.mono (by first | exact L.out.size | (simp; have := L.out.size; omega)))); replace Bm := Aside.mk ((by first | exact Bm.out | exact Bm.out.old _ : Blk _ H m.cells 25).below hb_); replace Br := Aside.mk ((by first | exact Br.out | exact Br.out.old _ : Blk _ (H + 1) r.cells 27).below hb_); replace Bcx := Aside.mk (Bcx.out.below hb_); obtain ⟨cz, hcz⟩ : ∃ cz, w_.heap.size = cz := ⟨_, rfl⟩; clear hb_) | ((with_reducible refine at_dst (N := 91) rfl ?_); refine load_blk_g cz 27 (by kernel_rfl) _ (by rfl) (by rfl) y.cells 27 _ (blk_at hcz) Tryz.underlying27 rfl (by kernel_rfl) ?_) | ((with_reducible refine at_dst (N := 92) rfl ?_); refine step_value_g (by kernel_rfl) (.bool false) (neq_rc y _ _ _ _ _ _ (by rfl) (by rfl) (by rfl)) ?_) | (go_at_call 9; (with_reducible refine (hmt _ (hl.next (by first | exact L.out | exact L.out.alloc L.out.size _))).mono ?_); rintro e w_ ⟨rfl, hb_⟩; replace L := Aside.mk ((by first | exact L.out | exact L.out.alloc L.out.size _ : Below w.heap.size w _).trans (hb_.mono (by first | exact L.out.size | (simp; have := L.out.size; omega)))); replace Bm := Aside.mk ((by first | exact Bm.out | exact Bm.out.old _ : Blk _ H m.cells 25).below hb_); replace Br := Aside.mk ((by first | exact Br.out | exact Br.out.old _ : Blk _ (H + 1) r.cells 27).below hb_); clear hb_) | (go_at_call 16; (with_reducible refine (hmp _ (hl.next (by first | exact L.out | exact L.out.alloc L.out.size _))).mono ?_); rintro e w_ ⟨rfl, hb_⟩; replace L := Aside.mk ((by first | exact L.out | exact L.out.alloc L.out.size _ : Below w.heap.size w _).trans (hb_.mono (by first | exact L.out.size | (simp; have := L.out.size; omega)))); replace Bm := Aside.mk ((by first | exact Bm.out | exact Bm.out.old _ : Blk _ H m.cells 25).below hb_); replace Br := Aside.mk ((by first | exact Br.out | exact Br.out.old _ : Blk _ (H + 1) r.cells 27).below hb_); obtain ⟨bq, hbq⟩ : ∃ bq, w_.heap.size = bq := ⟨_, rfl⟩; clear hb_) | ((with_reducible refine at_dst (N := 109) rfl ?_); refine load_blk_g bq 25 (by kernel_rfl) _ (by rfl) (by rfl) m.cells 25 _ (blk_at hbq) Tryz.underlying25 rfl (by kernel_rfl) ?_) | ((with_reducible refine at_dst (N := 111) rfl ?_); refine step_value_g (by kernel_rfl) (.bool false) (neq_ml m _ _ _ _ _ _ (by rfl) (by rfl) (by rfl)) ?_) | (go_at_call 12; (with_reducible refine (hrt _).mono ?_); rintro e w_ ⟨rfl, hb_⟩; replace L := Aside.mk ((by first | exact L.out | exact L.out.alloc L.out.size _ : Below w.heap.size w _).trans (hb_.mono (by first | exact L.out.size | (simp; have := L.out.size; omega)))); replace Bm := Aside.mk ((by first | exact Bm.out | exact Bm.out.old _ : Blk _ H m.cells 25).below hb_); replace Br := Aside.mk ((by first | exact Br.out | exact Br.out.old _ : Blk _ (H + 1) r.cells 27).below hb_); clear hb_) | ((with_reducible refine at_store (p := 7) rfl ?_); refine store_new rfl 25 _ _ _ x.cells (by rfl) bx hbx (by rfl) (by rfl) (by kernel_rfl) rfl (ml_one _) ?_) | ((with_reducible refine at_store (p := 13) rfl ?_); refine store_new rfl 27 _ _ _ y.cells (by rfl) cx hcx (by rfl) (by rfl) (by kernel_rfl) rfl (rc_one _) ?_) | ((with_reducible refine at_store (p := 17) rfl ?_); refine store_new rfl 27 _ _ _ y.cells (by rfl) cz hcz (by rfl) (by rfl) (by kernel_rfl) rfl (rc_one _) ?_) | ((with_reducible refine at_store (p := 21) rfl ?_); refine store_new rfl 25 _ _ _ m.cells (by rfl) bq hbq (by rfl) (by rfl) (by kernel_rfl) rfl (ml_one _) ?_))
  all_goals
    go_ret
    exact ⟨rfl, by first | exact L.out | exact L.out.alloc L.out.size _⟩
set_option maxHeartbeats 16000000 in
theorem back_w10 (m : Ml) (r : Rc) (s : ByteArray) (hs : s.size ≤ 3000) (hm : m.small = true) (hr : r.small = true) (fm : Fit m) (he : m.right = 0 → m.envid.size ≤ 100) (rk : r.kd.size ≤ 2000) (ro : r.oc.size ≤ 2000) (x : Ml) (ex : Int) (hx : Pm.parseMail s = (x, ex)) (y : Rc) (ey : Int) (hy : Pm.parseRcpt s = (y, ey))
    (cx : ex ≠ 0) (cy : ey = 0) (cm : m.right ≠ 0) (cr : r.right = 0) (w : World) (hl : Lv w) :
    Calls Tryz.prog 4 #[.agg m.cells, .agg r.cells, .string s] w fun e w' => e = .returned (.bool true) ∧ Below w.heap.size w w' := by
  have haw := fun W (hW : Lv W) => awake_any W hW
  have hsm := fun W => small_ml m r (by have := of_decide_eq_true hm; omega) (by have := of_decide_eq_true hr; omega) W
  rw [hm, hr] at hsm
  have hpm := fun W (hW : Lv W) => parseMail_any s (by omega) W hW
  have hpr := fun W (hW : Lv W) => parseRcpt_any s (by omega) W hW
  subst cy
  have ky : y.right = 0 := by have := Pm.rparse_right s (by rw [hy]); rwa [hy] at this
  have oy := rright_zero y ky
  have ykd : y.kd.size ≤ 2000 := by
    rcases oy.ko with k | k
    · rw [k.1]; decide
    · have := k.2.2.1
      unfold typed at this
      rw [Bool.and_eq_true, decide_eq_true_eq] at this
      have h2 : y.kd.data.toList.length = y.kd.size := by simp
      omega
  have yoc : y.oc.size ≤ 2000 := by
    rcases oy.ko with k | k
    · rw [k.2]; decide
    · omega
  have hyt := fun W => printRcpt_rc y ykd yoc W
  rw [ky, if_pos rfl] at hyt
  have hyp := fun W (hW : Lv W) => parseRcpt_any y.text (by have := rtext_size y ykd yoc; omega) W hW
  rw [Pm.rparse_printed y ky] at hyp
  rw [hx] at hpm
  rw [hy] at hpr
  have hmt := fun W (hW : Lv W) => printMail_ml m fm W hW
  have hrt := fun W => printRcpt_rc r rk ro W
  rw [if_neg cm] at hmt
  obtain ⟨em, hem⟩ : ∃ em, m.right = em := ⟨_, rfl⟩
  rw [hem] at hmt cm
  rw [cr, if_pos rfl] at hrt
  have hrp := fun W (hW : Lv W) => parseRcpt_any r.text (by have := rtext_size r rk ro; omega) W hW
  rw [Pm.rparse_printed r cr] at hrp
  have bx1 : (ex == 0) = false := by simpa using cx
  have bx2 : (ex != 0) = true := by simpa using cx
  have bm1 : (em == 0) = false := by simpa using cm
  obtain ⟨ty, hty⟩ : ∃ ty, y.text = ty := ⟨_, rfl⟩
  rw [hty] at hyt hyp
  obtain ⟨tr, htr⟩ : ∃ tr, r.text = tr := ⟨_, rfl⟩
  rw [htr] at hrt hrp
  clear fm rk ro hx hy he hm hr
  have hs2 : decide ((3000 : Int) < (s.size : Int)) = false := decide_eq_false (by omega)
  clear ky oy ykd yoc hty cm hem cr htr cx
  dsimp only at hpm hpr hyp hrp
  obtain ⟨H, hH⟩ : ∃ H, w.heap.size = H := ⟨_, rfl⟩
  have Bm : Aside (Blk ((w.alloc (.cells m.cells 25)).alloc (.cells r.cells 27)) H m.cells 25) := ⟨hH ▸ (Blk.new (w := w) m.cells 25).old _⟩
  have Br : Aside (Blk ((w.alloc (.cells m.cells 25)).alloc (.cells r.cells 27)) (H + 1) r.cells 27) := ⟨by have := Blk.new (w := w.alloc (.cells m.cells 25)) r.cells 27; rw [World.size_alloc, hH] at this; exact this⟩
  have L : Aside (Below w.heap.size w ((w.alloc (.cells m.cells 25)).alloc (.cells r.cells 27))) := ⟨((Below.refl _ w).alloc (Nat.le_refl _) _).alloc (by simp) _⟩
  go_enter Tryz.func4, Tryz.ntmps4
  go_wp2_with (first | (go_at_call 7; (with_reducible refine (haw _ (hl.next (by first | exact L.out | exact L.out.alloc L.out.size _))).mono ?_); rintro e w_ ⟨rfl, hb_⟩; replace L := Aside.mk ((by first | exact L.out | exact L.out.alloc L.out.size _ : Below w.heap.size w _).trans (hb_.mono (by first | exact L.out.size | (simp; have := L.out.size; omega)))); replace Bm := Aside.mk ((by first | exact Bm.out | exact Bm.out.old _ : Blk _ H m.cells 25).below hb_); replace Br := Aside.mk ((by first | exact Br.out | exact Br.out.old _ : Blk _ (H + 1) r.cells 27).below hb_); clear hb_) | (go_at_call 8; (with_reducible refine (hsm _).mono ?_); rintro e w_ ⟨rfl, hb_⟩; replace L := Aside.mk ((by first | exact L.out | exact L.out.alloc L.out.size _ : Below w.heap.size w _).trans (hb_.mono (by first | exact L.out.size | (simp; have := L.out.size; omega)))); replace Bm := Aside.mk ((by first | exact Bm.out | exact Bm.out.old _ : Blk _ H m.cells 25).below hb_); replace Br := Aside.mk ((by first | exact Br.out | exact Br.out.old _ : Blk _ (H + 1) r.cells 27).below hb_); clear hb_) | ((with_reducible refine at_dst (N := 29) rfl ?_); refine load_blk_g H 25 (by kernel_rfl) _ (by rfl) (by rfl) m.cells 25 _ (by first | exact Bm.out | exact Bm.out.old _) Tryz.underlying25 rfl (by kernel_rfl) ?_) | ((with_reducible refine at_dst (N := 95) rfl ?_); refine load_blk_g H 25 (by kernel_rfl) _ (by rfl) (by rfl) m.cells 25 _ (by first | exact Bm.out | exact Bm.out.old _) Tryz.underlying25 rfl (by kernel_rfl) ?_) | ((with_reducible refine at_dst (N := 110) rfl ?_); refine load_blk_g H 25 (by kernel_rfl) _ (by rfl) (by rfl) m.cells 25 _ (by first | exact Bm.out | exact Bm.out.old _) Tryz.underlying25 rfl (by kernel_rfl) ?_) | ((with_reducible refine at_dst (N := 30) rfl ?_); refine load_blk_g (H + 1) 27 (by kernel_rfl) _ (by rfl) (by rfl) r.cells 27 _ (by first | exact Br.out | exact Br.out.old _) Tryz.underlying27 rfl (by kernel_rfl) ?_) | ((with_reducible refine at_dst (N := 114) rfl ?_); refine load_blk_g (H + 1) 27 (by kernel_rfl) _ (by rfl) (by rfl) r.cells 27 _ (by first | exact Br.out | exact Br.out.old _) Tryz.underlying27 rfl (by kernel_rfl) ?_) | ((with_reducible refine at_dst (N := 129) rfl ?_); refine load_blk_g (H + 1) 27 (by kernel_rfl) _ (by rfl) (by rfl) r.cells 27 _ (by first | exact Br.out | exact Br.out.old _) Tryz.underlying27 rfl (by kernel_rfl) ?_) | (go_at_call 16; (with_reducible refine (hpm _ (hl.next (by first | exact L.out | exact L.out.alloc L.out.size _))).mono ?_); rintro e w_ ⟨rfl, hb_⟩; replace L := Aside.mk ((by first | exact L.out | exact L.out.alloc L.out.size _ : Below w.heap.size w _).trans (hb_.mono (by first | exact L.out.size | (simp; have := L.out.size; omega)))); replace Bm := Aside.mk ((by first | exact Bm.out | exact Bm.out.old _ : Blk _ H m.cells 25).below hb_); replace Br := Aside.mk ((by first | exact Br.out | exact Br.out.old _ : Blk _ (H + 1) r.cells 27).below hb_); obtain ⟨bx, hbx⟩ : ∃ bx, w_.heap.size = bx := ⟨_, rfl⟩; clear hb_) | (go_at_call 17; (with_reducible refine (hpr _ (hl.next (by first | exact L.out | exact L.out.alloc L.out.size _))).mono ?_); rintro e w_ ⟨rfl, hb_⟩; replace L := Aside.mk ((by first | exact L.out | exact L.out.alloc L.out.size _ : Below w.heap.size w _).trans (hb_.mono (by first | exact L.out.size | (simp; have := L.out.size; omega)))); replace Bm := Aside.mk ((by first | exact Bm.out | exact Bm.out.old _ : Blk _ H m.cells 25).below hb_); replace Br := Aside.mk ((by first | exact Br.out | exact Br.out.old _ : Blk _ (H + 1) r.cells 27).below hb_); obtain ⟨cx, hcx⟩ : ∃ cx, w_.heap.size = cx := ⟨_, rfl⟩; clear hb_) | ((with_reducible refine at_dst (N := 74) rfl ?_); refine load_blk_g cx 27 (by kernel_rfl) _ (by rfl) (by rfl) y.cells 27 _ (by first | exact blk_at hcx | exact Bcx.out | exact Bcx.out.old _) Tryz.underlying27 rfl (by kernel_rfl) ?_) | ((with_reducible refine at_dst (N := 90) rfl ?_); refine load_blk_g cx 27 (by kernel_rfl) _ (by rfl) (by rfl) y.cells 27 _ (by first | exact blk_at hcx | exact Bcx.out | exact Bcx.out.old _) Tryz.underlying27 rfl (by kernel_rfl) ?_) | (go_at_call 12; (with_reducible refine (hyt _).mono ?_); rintro e w_ ⟨rfl, hb_⟩; replace L := Aside.mk ((by first | exact L.out | exact L.out.alloc L.out.size _ : Below w.heap.size w _).trans (hb_.mono (by first | exact L.out.size | (simp; have := L.out.size; omega)))); replace Bm := Aside.mk ((by first | exact Bm.out | exact Bm.out.old _ : Blk _ H m.cells 25).below hb_); replace Br := Aside.mk ((by first | exact Br.out | exact Br.out.old _ : Blk _ (H + 1) r.cells 27).below hb_); have Bcx := Aside.mk (blk_named hb_ cx hcx); clear hcx; clear hb_) | (go_at_call 17; (with_reducible refine (hyp _ (hl.next (by first | exact L.out | exact L.out.alloc L.out.size _))).mono ?_); rintro e w_ ⟨rfl, hb_⟩; replace L := Aside.mk ((by first | exact L.out | exact L.out.alloc L.out.size _ : Below w.heap.size w _).trans (hb_.mono (by first | exact L.out.size | (simp; have := L.out.size; omega)))); replace Bm := Aside.mk ((by first | exact Bm.out | exact Bm.out.old _ : Blk _ H m.cells 25).below hb_); replace Br := Aside.mk ((by first | exact Br.out | exact Br.out.old _ : Blk _ (H + 1) r.cells 27).below hb_); replace Bcx := Aside.mk (Bcx.out.below hb_); obtain ⟨cz, hcz⟩ : ∃ cz, w_.heap.size = cz := ⟨_, rfl⟩; clear hb_) | ((with_reducible refine at_dst (N := 91) rfl ?_); refine load_blk_g cz 27 (by kernel_rfl) _ (by rfl) (by rfl) y.cells 27 _ (blk_at hcz) Tryz.underlying27 rfl (by kernel_rfl) ?_) | ((with_reducible refine at_dst (N := 92) rfl ?_); refine step_value_g (by kernel_rfl) (.bool false) (neq_rc y _ _ _ _ _ _ (by rfl) (by rfl) (by rfl)) ?_) | (go_at_call 9; (with_reducible refine (hmt _ (hl.next (by first | exact L.out | exact L.out.alloc L.out.size _))).mono ?_); rintro e w_ ⟨rfl, hb_⟩; replace L := Aside.mk ((by first | exact L.out | exact L.out.alloc L.out.size _ : Below w.heap.size w _).trans (hb_.mono (by first | exact L.out.size | (simp; have := L.out.size; omega)))); replace Bm := Aside.mk ((by first | exact Bm.out | exact Bm.out.old _ : Blk _ H m.cells 25).below hb_); replace Br := Aside.mk ((by first | exact Br.out | exact Br.out.old _ : Blk _ (H + 1) r.cells 27).below hb_); clear hb_) | (go_at_call 12; (with_reducible refine (hrt _).mono ?_); rintro e w_ ⟨rfl, hb_⟩; replace L := Aside.mk ((by first | exact L.out | exact L.out.alloc L.out.size _ : Below w.heap.size w _).trans (hb_.mono (by first | exact L.out.size | (simp; have := L.out.size; omega)))); replace Bm := Aside.mk ((by first | exact Bm.out | exact Bm.out.old _ : Blk _ H m.cells 25).below hb_); replace Br := Aside.mk ((by first | exact Br.out | exact Br.out.old _ : Blk _ (H + 1) r.cells 27).below hb_); clear hb_) | (go_at_call 17; (with_reducible refine (hrp _ (hl.next (by first | exact L.out | exact L.out.alloc L.out.size _))).mono ?_); rintro e w_ ⟨rfl, hb_⟩; replace L := Aside.mk ((by first | exact L.out | exact L.out.alloc L.out.size _ : Below w.heap.size w _).trans (hb_.mono (by first | exact L.out.size | (simp; have := L.out.size; omega)))); replace Bm := Aside.mk ((by first | exact Bm.out | exact Bm.out.old _ : Blk _ H m.cells 25).below hb_); replace Br := Aside.mk ((by first | exact Br.out | exact Br.out.old _ : Blk _ (H + 1) r.cells 27).below hb_); obtain ⟨cq, hcq⟩ : ∃ cq, w_.heap.size = cq := ⟨_, rfl⟩; clear hb_) | ((with_reducible refine at_dst (N := 128) rfl ?_); refine load_blk_g cq 27 (by kernel_rfl) _ (by rfl) (by rfl) r.cells 27 _ (blk_at hcq) Tryz.underlying27 rfl (by kernel_rfl) ?_) | ((with_reducible refine at_dst (N := 130) rfl ?_); refine step_value_g (by kernel_rfl) (.bool false) (neq_rc r _ _ _ _ _ _ (by rfl) (by rfl) (by rfl)) ?_) | ((with_reducible refine at_store (p := 7) rfl ?_); refine store_new rfl 25 _ _ _ x.cells (by rfl) bx hbx (by rfl) (by rfl) (by kernel_rfl) rfl (ml_one _) ?_) | ((with_reducible refine at_store (p := 13) rfl ?_); refine store_new rfl 27 _ _ _ y.cells (by rfl) cx hcx (by rfl) (by rfl) (by kernel_rfl) rfl (rc_one _) ?_) | ((with_reducible refine at_store (p := 17) rfl ?_); refine store_new rfl 27 _ _ _ y.cells (by rfl) cz hcz (by rfl) (by rfl) (by kernel_rfl) rfl (rc_one _) ?_) | ((with_reducible refine at_store (p := 25) rfl ?_); refine store_new rfl 27 _ _ _ r.cells (by rfl) cq hcq (by rfl) (by rfl) (by kernel_rfl) rfl (rc_one _) ?_))
  all_goals
    go_ret
    exact ⟨rfl, by first | exact L.out | exact L.out.alloc L.out.size _⟩
set_option maxHeartbeats 16000000 in
theorem back_w11 (m : Ml) (r : Rc) (s : ByteArray) (hs : s.size ≤ 3000) (hm : m.small = true) (hr : r.small = true) (fm : Fit m) (he : m.right = 0 → m.envid.size ≤ 100) (rk : r.kd.size ≤ 2000) (ro : r.oc.size ≤ 2000) (x : Ml) (ex : Int) (hx : Pm.parseMail s = (x, ex)) (y : Rc) (ey : Int) (hy : Pm.parseRcpt s = (y, ey))
    (cx : ex ≠ 0) (cy : ey = 0) (cm : m.right ≠ 0) (cr : r.right ≠ 0) (w : World) (hl : Lv w) :
    Calls Tryz.prog 4 #[.agg m.cells, .agg r.cells, .string s] w fun e w' => e = .returned (.bool true) ∧ Below w.heap.size w w' := by
  have haw := fun W (hW : Lv W) => awake_any W hW
  have hsm := fun W => small_ml m r (by have := of_decide_eq_true hm; omega) (by have := of_decide_eq_true hr; omega) W
  rw [hm, hr] at hsm
  have hpm := fun W (hW : Lv W) => parseMail_any s (by omega) W hW
  have hpr := fun W (hW : Lv W) => parseRcpt_any s (by omega) W hW
  subst cy
  have ky : y.right = 0 := by have := Pm.rparse_right s (by rw [hy]); rwa [hy] at this
  have oy := rright_zero y ky
  have ykd : y.kd.size ≤ 2000 := by
    rcases oy.ko with k | k
    · rw [k.1]; decide
    · have := k.2.2.1
      unfold typed at this
      rw [Bool.and_eq_true, decide_eq_true_eq] at this
      have h2 : y.kd.data.toList.length = y.kd.size := by simp
      omega
  have yoc : y.oc.size ≤ 2000 := by
    rcases oy.ko with k | k
    · rw [k.2]; decide
    · omega
  have hyt := fun W => printRcpt_rc y ykd yoc W
  rw [ky, if_pos rfl] at hyt
  have hyp := fun W (hW : Lv W) => parseRcpt_any y.text (by have := rtext_size y ykd yoc; omega) W hW
  rw [Pm.rparse_printed y ky] at hyp
  rw [hx] at hpm
  rw [hy] at hpr
  have hmt := fun W (hW : Lv W) => printMail_ml m fm W hW
  have hrt := fun W => printRcpt_rc r rk ro W
  rw [if_neg cm] at hmt
  obtain ⟨em, hem⟩ : ∃ em, m.right = em := ⟨_, rfl⟩
  rw [hem] at hmt cm
  rw [if_neg cr] at hrt
  obtain ⟨er, her⟩ : ∃ er, r.right = er := ⟨_, rfl⟩
  rw [her] at hrt cr
  have bx1 : (ex == 0) = false := by simpa using cx
  have bx2 : (ex != 0) = true := by simpa using cx
  have bm1 : (em == 0) = false := by simpa using cm
  have br1 : (er == 0) = false := by simpa using cr
  obtain ⟨ty, hty⟩ : ∃ ty, y.text = ty := ⟨_, rfl⟩
  rw [hty] at hyt hyp
  clear fm rk ro hx hy he hm hr
  have hs2 : decide ((3000 : Int) < (s.size : Int)) = false := decide_eq_false (by omega)
  clear ky oy ykd yoc hty cm hem cr her cx
  dsimp only at hpm hpr hyp
  obtain ⟨H, hH⟩ : ∃ H, w.heap.size = H := ⟨_, rfl⟩
  have Bm : Aside (Blk ((w.alloc (.cells m.cells 25)).alloc (.cells r.cells 27)) H m.cells 25) := ⟨hH ▸ (Blk.new (w := w) m.cells 25).old _⟩
  have Br : Aside (Blk ((w.alloc (.cells m.cells 25)).alloc (.cells r.cells 27)) (H + 1) r.cells 27) := ⟨by have := Blk.new (w := w.alloc (.cells m.cells 25)) r.cells 27; rw [World.size_alloc, hH] at this; exact this⟩
  have L : Aside (Below w.heap.size w ((w.alloc (.cells m.cells 25)).alloc (.cells r.cells 27))) := ⟨((Below.refl _ w).alloc (Nat.le_refl _) _).alloc (by simp) _⟩
  go_enter Tryz.func4, Tryz.ntmps4
  go_wp2_with (first | (go_at_call 7; (with_reducible refine (haw _ (hl.next (by first | exact L.out | exact L.out.alloc L.out.size _))).mono ?_); rintro e w_ ⟨rfl, hb_⟩; replace L := Aside.mk ((by first | exact L.out | exact L.out.alloc L.out.size _ : Below w.heap.size w _).trans (hb_.mono (by first | exact L.out.size | (simp; have := L.out.size; omega)))); replace Bm := Aside.mk ((by first | exact Bm.out | exact Bm.out.old _ : Blk _ H m.cells 25).below hb_); replace Br := Aside.mk ((by first | exact Br.out | exact Br.out.old _ : Blk _ (H + 1) r.cells 27).below hb_); clear hb_) | (go_at_call 8; (with_reducible refine (hsm _).mono ?_); rintro e w_ ⟨rfl, hb_⟩; replace L := Aside.mk ((by first | exact L.out | exact L.out.alloc L.out.size _ : Below w.heap.size w _).trans (hb_.mono (by first | exact L.out.size | (simp; have := L.out.size; omega)))); replace Bm := Aside.mk ((by first | exact Bm.out | exact Bm.out.old _ : Blk _ H m.cells 25).below hb_); replace Br := Aside.mk ((by first | exact Br.out | exact Br.out.old _ : Blk _ (H + 1) r.cells 27).below hb_); clear hb_) | ((with_reducible refine at_dst (N := 29) rfl ?_); refine load_blk_g H 25 (by kernel_rfl) _ (by rfl) (by rfl) m.cells 25 _ (by first | exact Bm.out | exact Bm.out.old _) Tryz.underlying25 rfl (by kernel_rfl) ?_) | ((with_reducible refine at_dst (N := 95) rfl ?_); refine load_blk_g H 25 (by kernel_rfl) _ (by rfl) (by rfl) m.cells 25 _ (by first | exact Bm.out | exact Bm.out.old _) Tryz.underlying25 rfl (by kernel_rfl) ?_) | ((with_reducible refine at_dst (N := 110) rfl ?_); refine load_blk_g H 25 (by kernel_rfl) _ (by rfl) (by rfl) m.cells 25 _ (by first | exact Bm.out | exact Bm.out.old _) Tryz.underlying25 rfl (by kernel_rfl) ?_) | ((with_reducible refine at_dst (N := 30) rfl ?_); refine load_blk_g (H + 1) 27 (by kernel_rfl) _ (by rfl) (by rfl) r.cells 27 _ (by first | exact Br.out | exact Br.out.old _) Tryz.underlying27 rfl (by kernel_rfl) ?_) | ((with_reducible refine at_dst (N := 114) rfl ?_); refine load_blk_g (H + 1) 27 (by kernel_rfl) _ (by rfl) (by rfl) r.cells 27 _ (by first | exact Br.out | exact Br.out.old _) Tryz.underlying27 rfl (by kernel_rfl) ?_) | ((with_reducible refine at_dst (N := 129) rfl ?_); refine load_blk_g (H + 1) 27 (by kernel_rfl) _ (by rfl) (by rfl) r.cells 27 _ (by first | exact Br.out | exact Br.out.old _) Tryz.underlying27 rfl (by kernel_rfl) ?_) | (go_at_call 16; (with_reducible refine (hpm _ (hl.next (by first | exact L.out | exact L.out.alloc L.out.size _))).mono ?_); rintro e w_ ⟨rfl, hb_⟩; replace L := Aside.mk ((by first | exact L.out | exact L.out.alloc L.out.size _ : Below w.heap.size w _).trans (hb_.mono (by first | exact L.out.size | (simp; have := L.out.size; omega)))); replace Bm := Aside.mk ((by first | exact Bm.out | exact Bm.out.old _ : Blk _ H m.cells 25).below hb_); replace Br := Aside.mk ((by first | exact Br.out | exact Br.out.old _ : Blk _ (H + 1) r.cells 27).below hb_); obtain ⟨bx, hbx⟩ : ∃ bx, w_.heap.size = bx := ⟨_, rfl⟩; clear hb_) | (go_at_call 17; (with_reducible refine (hpr _ (hl.next (by first | exact L.out | exact L.out.alloc L.out.size _))).mono ?_); rintro e w_ ⟨rfl, hb_⟩; replace L := Aside.mk ((by first | exact L.out | exact L.out.alloc L.out.size _ : Below w.heap.size w _).trans (hb_.mono (by first | exact L.out.size | (simp; have := L.out.size; omega)))); replace Bm := Aside.mk ((by first | exact Bm.out | exact Bm.out.old _ : Blk _ H m.cells 25).below hb_); replace Br := Aside.mk ((by first | exact Br.out | exact Br.out.old _ : Blk _ (H + 1) r.cells 27).below hb_); obtain ⟨cx, hcx⟩ : ∃ cx, w_.heap.size = cx := ⟨_, rfl⟩; clear hb_) | ((with_reducible refine at_dst (N := 74) rfl ?_); refine load_blk_g cx 27 (by kernel_rfl) _ (by rfl) (by rfl) y.cells 27 _ (by first | exact blk_at hcx | exact Bcx.out | exact Bcx.out.old _) Tryz.underlying27 rfl (by kernel_rfl) ?_) | ((with_reducible refine at_dst (N := 90) rfl ?_); refine load_blk_g cx 27 (by kernel_rfl) _ (by rfl) (by rfl) y.cells 27 _ (by first | exact blk_at hcx | exact Bcx.out | exact Bcx.out.old _) Tryz.underlying27 rfl (by kernel_rfl) ?_) | (go_at_call 12; (with_reducible refine (hyt _).mono ?_); rintro e w_ ⟨rfl, hb_⟩; replace L := Aside.mk ((by first | exact L.out | exact L.out.alloc L.out.size _ : Below w.heap.size w _).trans (hb_.mono (by first | exact L.out.size | (simp; have := L.out.size; omega)))); replace Bm := Aside.mk ((by first | exact Bm.out | exact Bm.out.old _ : Blk _ H m.cells 25).below hb_); replace Br := Aside.mk ((by first | exact Br.out | exact Br.out.old _ : Blk _ (H + 1) r.cells 27).below hb_); have Bcx := Aside.mk (blk_named hb_ cx hcx); clear hcx; clear hb_) | (go_at_call 17; (with_reducible refine (hyp _ (hl.next (by first | exact L.out | exact L.out.alloc L.out.size _))).mono ?_); rintro e w_ ⟨rfl, hb_⟩; replace L := Aside.mk ((by first | exact L.out | exact L.out.alloc L.out.size _ : Below w.heap.size w _).trans (hb_.mono (by first | exact L.out.size | (simp; have := L.out.size; omega)))); replace Bm := Aside.mk ((by first | exact Bm.out | exact Bm.out.old _ : Blk _ H m.cells 25).below hb_); replace Br := Aside.mk ((by first | exact Br.out | exact Br.out.old _ : Blk _ (H + 1) r.cells 27).below hb_); replace Bcx := Aside.mk (Bcx.out.below hb_); obtain ⟨cz, hcz⟩ : ∃ cz, w_.heap.size = cz := ⟨_, rfl⟩; clear hb_) | ((with_reducible refine at_dst (N := 91) rfl ?_); refine load_blk_g cz 27 (by kernel_rfl) _ (by rfl) (by rfl) y.cells 27 _ (blk_at hcz) Tryz.underlying27 rfl (by kernel_rfl) ?_) | ((with_reducible refine at_dst (N := 92) rfl ?_); refine step_value_g (by kernel_rfl) (.bool false) (neq_rc y _ _ _ _ _ _ (by rfl) (by rfl) (by rfl)) ?_) | (go_at_call 9; (with_reducible refine (hmt _ (hl.next (by first | exact L.out | exact L.out.alloc L.out.size _))).mono ?_); rintro e w_ ⟨rfl, hb_⟩; replace L := Aside.mk ((by first | exact L.out | exact L.out.alloc L.out.size _ : Below w.heap.size w _).trans (hb_.mono (by first | exact L.out.size | (simp; have := L.out.size; omega)))); replace Bm := Aside.mk ((by first | exact Bm.out | exact Bm.out.old _ : Blk _ H m.cells 25).below hb_); replace Br := Aside.mk ((by first | exact Br.out | exact Br.out.old _ : Blk _ (H + 1) r.cells 27).below hb_); clear hb_) | (go_at_call 12; (with_reducible refine (hrt _).mono ?_); rintro e w_ ⟨rfl, hb_⟩; replace L := Aside.mk ((by first | exact L.out | exact L.out.alloc L.out.size _ : Below w.heap.size w _).trans (hb_.mono (by first | exact L.out.size | (simp; have := L.out.size; omega)))); replace Bm := Aside.mk ((by first | exact Bm.out | exact Bm.out.old _ : Blk _ H m.cells 25).below hb_); replace Br := Aside.mk ((by first | exact Br.out | exact Br.out.old _ : Blk _ (H + 1) r.cells 27).below hb_); clear hb_) | ((with_reducible refine at_store (p := 7) rfl ?_); refine store_new rfl 25 _ _ _ x.cells (by rfl) bx hbx (by rfl) (by rfl) (by kernel_rfl) rfl (ml_one _) ?_) | ((with_reducible refine at_store (p := 13) rfl ?_); refine store_new rfl 27 _ _ _ y.cells (by rfl) cx hcx (by rfl) (by rfl) (by kernel_rfl) rfl (rc_one _) ?_) | ((with_reducible refine at_store (p := 17) rfl ?_); refine store_new rfl 27 _ _ _ y.cells (by rfl) cz hcz (by rfl) (by rfl) (by kernel_rfl) rfl (rc_one _) ?_))
  all_goals
    go_ret
    exact ⟨rfl, by first | exact L.out | exact L.out.alloc L.out.size _⟩
end Go.Proofs.YtfffdbjfhdkheaaGreatDoor
