/-
  ParamOrder: its walk.
-/
import Derived.Test.YtfffdbjfhdkheaaGreatDoorQPmOr0
import Derived.Test.YtfffdbjfhdkheaaGreatDoorQPmOr1
import Derived.Test.YtfffdbjfhdkheaaGreatDoorQPmOrS
import Derived.Test.YtfffdbjfhdkheaaGreatDoorQPmBk1
import Derived.Test.YtfffdbjfhdkheaaGreatDoorQ1
set_option linter.unusedVariables false
set_option linter.unusedSimpArgs false
namespace Go.Proofs.YtfffdbjfhdkheaaGreatDoor
open Go.RowKit Go.Shelf Pm
set_option maxRecDepth 100000
set_option maxHeartbeats 8000000 in
theorem order_empty (k : Int) (hk : 0 ≤ k) (w : World) (hl : Lv w) : Calls Tryz.prog 5 #[.string ⟨#[]⟩, .int .i64 k] w fun e w' => e = .returned (.bool true) ∧ Below w.heap.size w w' := by
  have haw := fun W (hW : Lv W) => awake_any W hW
  have hpm := fun W (hW : Lv W) => parseMail_any ⟨#[]⟩ (by decide) W hW
  have hpr := fun W (hW : Lv W) => parseRcpt_any ⟨#[]⟩ (by decide) W hW
  have e1 : Pm.parseMail ⟨#[]⟩ = (Ml.zero, 0) := by rfl
  have e2 : Pm.parseRcpt ⟨#[]⟩ = (Rc.zero, 0) := by rfl
  rw [e1] at hpm
  rw [e2] at hpr
  dsimp only at hpm hpr
  have hk2 : decide (k < 0) = false := decide_eq_false (by omega)
  have L : Aside (Below w.heap.size w w) := ⟨Below.refl _ _⟩
  go_enter Tryz.func5, Tryz.ntmps5
  go_wp2_with (first | (go_at_call 7; (with_reducible refine (haw _ (hl.next (by first | exact L.out | exact L.out.alloc L.out.size _))).mono ?_); rintro e w_ ⟨rfl, hb_⟩; replace L := Aside.mk ((by first | exact L.out | exact L.out.alloc L.out.size _ : Below w.heap.size w _).trans (hb_.mono (by first | exact L.out.size | (simp; have := L.out.size; omega)))); clear hb_) | (go_at_call 16; (with_reducible refine (hpm _ (hl.next (by first | exact L.out | exact L.out.alloc L.out.size _))).mono ?_); rintro e w_ ⟨rfl, hb_⟩; replace L := Aside.mk ((by first | exact L.out | exact L.out.alloc L.out.size _ : Below w.heap.size w _).trans (hb_.mono (by first | exact L.out.size | (simp; have := L.out.size; omega)))); obtain ⟨bx, hbx⟩ : ∃ bx, w_.heap.size = bx := ⟨_, rfl⟩; clear hb_) | (go_at_call 17; (with_reducible refine (hpr _ (hl.next (by first | exact L.out | exact L.out.alloc L.out.size _))).mono ?_); rintro e w_ ⟨rfl, hb_⟩; replace L := Aside.mk ((by first | exact L.out | exact L.out.alloc L.out.size _ : Below w.heap.size w _).trans (hb_.mono (by first | exact L.out.size | (simp; have := L.out.size; omega)))); have Bbx := Aside.mk (blk_named hb_ bx hbx); clear hbx; obtain ⟨cx, hcx⟩ : ∃ cx, w_.heap.size = cx := ⟨_, rfl⟩; clear hb_) | ((with_reducible refine at_store (p := 5) rfl ?_); refine store_new rfl 25 _ _ _ Ml.zero.cells (by rfl) bx hbx (by rfl) (by rfl) (by kernel_rfl) rfl (ml_one _) ?_) | ((with_reducible refine at_store (p := 7) rfl ?_); refine store_new rfl 27 _ _ _ Rc.zero.cells (by rfl) cx hcx (by rfl) (by rfl) (by kernel_rfl) rfl (rc_one _) ?_) | ((with_reducible refine at_dst (N := 41) rfl ?_); refine load_blk_g bx 25 (by kernel_rfl) _ (by rfl) (by rfl) Ml.zero.cells 25 _ (by first | exact Bbx.out | exact Bbx.out.old _) Tryz.underlying25 rfl (by kernel_rfl) ?_) | ((with_reducible refine at_dst (N := 45) rfl ?_); refine load_blk_g cx 27 (by kernel_rfl) _ (by rfl) (by rfl) Rc.zero.cells 27 _ (blk_at hcx) Tryz.underlying27 rfl (by kernel_rfl) ?_) | ((with_reducible refine at_dst (N := 43) rfl ?_); refine step_value_g (by kernel_rfl) (.bool true) (eq_ml _ _ _ _ _ _ (by rfl) (by rfl) (by rfl)) ?_) | ((with_reducible refine at_dst (N := 47) rfl ?_); refine step_value_g (by kernel_rfl) (.bool true) (eq_rc _ _ _ _ _ _ (by rfl) (by rfl) (by rfl)) ?_))
  all_goals
    go_ret
    exact ⟨rfl, by first | exact L.out | exact L.out.alloc L.out.size _⟩
set_option maxHeartbeats 16000000 in
theorem order_w11 (s : ByteArray) (hs : s.size ≤ 3000) (hne : s ≠ ⟨#[]⟩) (k : Int) (hk : 0 ≤ k) (hk2 : I64 k) (x : Ml) (ex : Int) (hx : Pm.parseMail s = (x, ex)) (y : Rc) (ey : Int) (hy : Pm.parseRcpt s = (y, ey))
    (cx : ex = 0) (cy : ey = 0) (w : World) (hl : Lv w) :
    Calls Tryz.prog 5 #[.string s, .int .i64 k] w fun e w' => e = .returned (.bool true) ∧ Below w.heap.size w w' := by
  have haw := fun W (hW : Lv W) => awake_any W hW
  have hpm := fun W (hW : Lv W) => parseMail_any s (by omega) W hW
  have hpr := fun W (hW : Lv W) => parseRcpt_any s (by omega) W hW
  have hwd := fun W => lwords_any s (by omega) W
  have hsl : s.data.toList ≠ [] := fun e => hne (by apply ByteArray.ext; apply Array.toList_inj.1; exact e)
  have hpn := parts_ne 32 s
  have hplen := Pm.parts_len s
  have hpsz := Pm.part_size s
  have htd := Pm.turn_done _ hpn
  have hmt : ex = 0 → Pm.parseMail (joinB (parts 32 s).reverse ⟨#[32]⟩) = (x, 0) := fun e => by
    rw [Pm.mail_turned s hsl (by rw [hx]; exact e), hx, e]
  have hrt : ey = 0 → Pm.parseRcpt (joinB (parts 32 s).reverse ⟨#[32]⟩) = (y, 0) := fun e => by
    rw [Pm.rcpt_turned s hsl (by rw [hy]; exact e), hy, e]
  have hm2 : ex = 0 → ∀ v ∈ parts 32 s, (Pm.parseMail (s ++ ⟨#[32]⟩ ++ v)).2 = 11 := fun e v hv => Pm.mail_twice s hsl (by rw [hx]; exact e) v hv
  have hr2 : ey = 0 → ∀ v ∈ parts 32 s, (Pm.parseRcpt (s ++ ⟨#[32]⟩ ++ v)).2 = 11 := fun e v hv => Pm.rcpt_twice s hsl (by rw [hy]; exact e) v hv
  rw [← htd] at hmt hrt
  obtain ⟨rl, hrl⟩ : ∃ rl, parts 32 s = rl := ⟨_, rfl⟩
  rw [hrl] at hwd hpn hplen hpsz hmt hrt hm2 hr2
  clear htd hrl
  have hn0 : 0 < rl.length := List.length_pos_iff.2 hpn
  have hts := Pm.turn_size rl s.size hpsz
  have htb : ∀ j, j ≤ rl.length → (Pm.turnT rl j).size ≤ 10000000 := fun j hj => by
    have h1 := hts j hj
    have h2 : j * (s.size + 1) ≤ 3001 * 3001 := Nat.mul_le_mul (by omega) (by omega)
    omega
  obtain ⟨q, hq⟩ : ∃ q : Nat, k.tmod (rl.length : Int) = q := ⟨(k.tmod rl.length).toNat, by
    have := Int.tmod_nonneg (rl.length : Int) hk
    omega⟩
  have hql : q < rl.length := by
    have := Int.tmod_lt_of_pos k (show (0 : Int) < rl.length by omega)
    omega
  have htm := fun W (hW : Lv W) => parseMail_any (Pm.turnT rl rl.length) (by have := htb _ (Nat.le_refl _); omega) W hW
  have htr := fun W (hW : Lv W) => parseRcpt_any (Pm.turnT rl rl.length) (by have := htb _ (Nat.le_refl _); omega) W hW
  have hz := hpsz rl[q] (List.getElem_mem hql)
  have hsz2 : (s ++ ⟨#[32]⟩ ++ rl[q]).size ≤ 100000 := by
    have e1 : (⟨#[32]⟩ : ByteArray).size = 1 := rfl
    simp only [ByteArray.size_append, e1]; omega
  have htw := fun W (hW : Lv W) => parseMail_any (s ++ ⟨#[32]⟩ ++ rl[q]) (by omega) W hW
  have htu := fun W (hW : Lv W) => parseRcpt_any (s ++ ⟨#[32]⟩ ++ rl[q]) (by omega) W hW
  have hm3 := fun e => hm2 e rl[q] (List.getElem_mem hql)
  have hr3 := fun e => hr2 e rl[q] (List.getElem_mem hql)
  clear hm2 hr2
  rw [hx] at hpm
  rw [hy] at hpr
  subst cx
  rw [hmt rfl] at htm
  obtain ⟨m2, hm4⟩ : ∃ m2, (Pm.parseMail (s ++ ⟨#[32]⟩ ++ rl[q])).1 = m2 := ⟨_, rfl⟩
  rw [hm3 rfl, hm4] at htw
  obtain ⟨n, hn⟩ : ∃ n, n = x := ⟨_, rfl⟩
  subst cy
  rw [hrt rfl] at htr
  obtain ⟨r2, hr4⟩ : ∃ r2, (Pm.parseRcpt (s ++ ⟨#[32]⟩ ++ rl[q])).1 = r2 := ⟨_, rfl⟩
  rw [hr3 rfl, hr4] at htu
  obtain ⟨n', hn'⟩ : ∃ n, n = y := ⟨_, rfl⟩
  dsimp only at hpm hpr htm htr htw htu
  clear hx hy hmt hrt hm3 hr3 hm4 hr4 hn hn' hts
  have hs2 : decide ((3000 : Int) < (s.size : Int)) = false := decide_eq_false (by omega)
  have hk3 : decide (k < 0) = false := decide_eq_false (by omega)
  have hsb : s.toList.isEmpty = false := by rw [Lib.toList_data]; cases hl : s.data.toList with | nil => exact absurd hl hsl | cons _ _ => rfl
  have HP := Aside.mk hpsz
  have HT := Aside.mk htb
  have HSL := Aside.mk hsl
  clear hpsz htb hsl hpn hne
  have L : Aside (Below w.heap.size w w) := ⟨Below.refl _ _⟩
  go_enter Tryz.func5, Tryz.ntmps5
  go_wp2_with (first | (go_at_call 7; (with_reducible refine (haw _ (hl.next (by first | exact L.out | exact L.out.alloc L.out.size _))).mono ?_); rintro e w_ ⟨rfl, hb_⟩; replace L := Aside.mk ((by first | exact L.out | exact L.out.alloc L.out.size _ : Below w.heap.size w _).trans (hb_.mono (by first | exact L.out.size | (simp; have := L.out.size; omega)))); clear hb_) | (go_at_call 16; (with_reducible refine (hpm _ (hl.next (by first | exact L.out | exact L.out.alloc L.out.size _))).mono ?_); rintro e w_ ⟨rfl, hb_⟩; replace L := Aside.mk ((by first | exact L.out | exact L.out.alloc L.out.size _ : Below w.heap.size w _).trans (hb_.mono (by first | exact L.out.size | (simp; have := L.out.size; omega)))); obtain ⟨bx, hbx⟩ : ∃ bx, w_.heap.size = bx := ⟨_, rfl⟩; clear hb_) | (go_at_call 17; (with_reducible refine (hpr _ (hl.next (by first | exact L.out | exact L.out.alloc L.out.size _))).mono ?_); rintro e w_ ⟨rfl, hb_⟩; replace L := Aside.mk ((by first | exact L.out | exact L.out.alloc L.out.size _ : Below w.heap.size w _).trans (hb_.mono (by first | exact L.out.size | (simp; have := L.out.size; omega)))); have Bbx := Aside.mk (blk_named hb_ bx hbx); clear hbx; obtain ⟨cx, hcx⟩ : ∃ cx, w_.heap.size = cx := ⟨_, rfl⟩; clear hb_) | ((with_reducible refine at_store (p := 5) rfl ?_); refine store_new rfl 25 _ _ _ x.cells (by rfl) bx hbx (by rfl) (by rfl) (by kernel_rfl) rfl (ml_one _) ?_) | ((with_reducible refine at_store (p := 7) rfl ?_); refine store_new rfl 27 _ _ _ y.cells (by rfl) cx hcx (by rfl) (by rfl) (by kernel_rfl) rfl (rc_one _) ?_) | (go_at_call 18; (with_reducible refine (hwd _).mono ?_); rintro e w_ ⟨⟨A_, c_, rfl, hst_⟩, hb_⟩; replace L := Aside.mk ((by first | exact L.out | exact L.out.alloc L.out.size _ : Below w.heap.size w _).trans (hb_.mono (by first | exact L.out.size | (simp; have := L.out.size; omega)))); replace Bbx := Aside.mk ((by first | exact Bbx.out | exact Bbx.out.old _ : Blk _ bx x.cells 25).below hb_); have Bcx := Aside.mk (blk_named hb_ cx hcx); clear hcx; have ST := Aside.mk hst_; clear hb_ hst_))
  go_loopw [10, 11] (fun t i wr => wr = w_ ∧ ∃ j : Nat, j ≤ rl.length ∧ i = .int .i64 ((rl.length : Int) - 1 - j) ∧ t = .string (Pm.turnT rl j)) (fun _ i _ => (intOf i + 1).toNat)
  case atStart => exact ⟨rfl, 0, by omega, by simp, rfl⟩
  case round =>
    obtain ⟨rfl, j, hj, rfl, rfl⟩ := hrel
    by_cases hlt : j < rl.length
    · obtain ⟨kk, hkk⟩ : ∃ kk : Nat, rl.length = kk + 1 + j := ⟨rl.length - 1 - j, by omega⟩
      have hi : (rl.length : Int) - 1 - j = kk := by omega
      rw [hi]
      have hkl : kk < rl.length := by omega
      obtain ⟨b_, o_, rfl, hb2_, hcell⟩ := ST.out.at kk hkl
      have hy1 := HT.out j (by omega)
      have hy2 := HP.out rl[kk] (List.getElem_mem hkl)
      have hA1 : ¬ 9223372036854775807 < (Pm.turnT rl j).size + rl[kk].size := by omega
      have hA2 : ¬ 9223372036854775807 < (Pm.turnT rl j).size + rl[kk].size + 1 := by omega
      rcases Nat.eq_zero_or_pos kk with rfl | hkp
      · have e := Pm.turn_last hkk hn0
        rw [Nat.add_zero] at hcell
        go_wp2
        go_roundw
        case rel => exact ⟨by first | trivial | rfl, j + 1, by omega, by first | (simp; done) | (simp; omega), by rw [e]⟩
        case measure => first | (simp [intOf]; done) | (simp [intOf]; omega)
      · have e := Pm.turn_less hkk hkp hkl
        go_wp2
        go_roundw
        case rel => exact ⟨by first | trivial | rfl, j + 1, by omega, by first | (simp; done) | (simp; omega), by rw [e]⟩
        case measure => first | (simp [intOf]; done) | (simp [intOf]; omega)
    · have hje : j = rl.length := by omega
      subst hje
      rw [show (rl.length : Int) - 1 - rl.length = -1 by omega]
      obtain ⟨b_, o_, rfl, hb2_, hcell⟩ := ST.out.at q hql
      obtain ⟨tt, htt⟩ : ∃ tt, Pm.turnT rl rl.length = tt := ⟨_, rfl⟩
      rw [htt] at htm htr ⊢
      have hA1 : ¬ 9223372036854775807 < s.size + 1 := by omega
      have hA2 : ¬ 9223372036854775807 < s.size + 1 + rl[q].size := by omega
      have hn1 : ((rl.length : Int) == 0) = false := by rw [beq_eq_false_iff_ne]; omega
      generalize rl[q] = v at *
      have CE := Aside.mk hcell
      clear ST htt hj hlt
      go_wp2_with (first | (go_at_call 16; (with_reducible refine (htm _ (hl.next (by first | exact L.out | exact L.out.alloc L.out.size _))).mono ?_); rintro e w_ ⟨rfl, hb_⟩; replace L := Aside.mk ((by first | exact L.out | exact L.out.alloc L.out.size _ : Below w.heap.size w _).trans (hb_.mono (by first | exact L.out.size | (simp; have := L.out.size; omega)))); replace Bbx := Aside.mk ((by first | exact Bbx.out | exact Bbx.out.old _ : Blk _ bx x.cells 25).below hb_); replace Bcx := Aside.mk ((by first | exact Bcx.out | exact Bcx.out.old _ : Blk _ cx y.cells 27).below hb_); clear hcell; have hcell := cell_next hb_ CE.out; clear CE; have CE := Aside.mk hcell; obtain ⟨bz, hbz⟩ : ∃ bz, w_.heap.size = bz := ⟨_, rfl⟩; clear hb_) | (go_at_call 17; (with_reducible refine (htr _ (hl.next (by first | exact L.out | exact L.out.alloc L.out.size _))).mono ?_); rintro e w_ ⟨rfl, hb_⟩; replace L := Aside.mk ((by first | exact L.out | exact L.out.alloc L.out.size _ : Below w.heap.size w _).trans (hb_.mono (by first | exact L.out.size | (simp; have := L.out.size; omega)))); replace Bbx := Aside.mk ((by first | exact Bbx.out | exact Bbx.out.old _ : Blk _ bx x.cells 25).below hb_); replace Bcx := Aside.mk ((by first | exact Bcx.out | exact Bcx.out.old _ : Blk _ cx y.cells 27).below hb_); have Bbz := Aside.mk (blk_named hb_ bz hbz); clear hbz; clear hcell; have hcell := cell_next hb_ (by first | exact CE.out | exact cell_next (w := _) ((Below.refl _ _).alloc (Nat.le_refl _) _) CE.out); clear CE; have CE := Aside.mk hcell; obtain ⟨cz, hcz⟩ : ∃ cz, w_.heap.size = cz := ⟨_, rfl⟩; clear hb_) | (go_at_call 16; (with_reducible refine (htw _ (hl.next (by first | exact L.out | exact L.out.alloc L.out.size _))).mono ?_); rintro e w_ ⟨rfl, hb_⟩; replace L := Aside.mk ((by first | exact L.out | exact L.out.alloc L.out.size _ : Below w.heap.size w _).trans (hb_.mono (by first | exact L.out.size | (simp; have := L.out.size; omega)))); replace Bbx := Aside.mk ((by first | exact Bbx.out | exact Bbx.out.old _ : Blk _ bx x.cells 25).below hb_); replace Bcx := Aside.mk ((by first | exact Bcx.out | exact Bcx.out.old _ : Blk _ cx y.cells 27).below hb_); clear hcell; have hcell := cell_next hb_ (by first | exact CE.out | exact cell_next (w := _) ((Below.refl _ _).alloc (Nat.le_refl _) _) CE.out); clear CE; have CE := Aside.mk hcell; obtain ⟨bq, hbq⟩ : ∃ bq, w_.heap.size = bq := ⟨_, rfl⟩; clear hb_) | (go_at_call 17; (with_reducible refine (htu _ (hl.next (by first | exact L.out | exact L.out.alloc L.out.size _))).mono ?_); rintro e w_ ⟨rfl, hb_⟩; replace L := Aside.mk ((by first | exact L.out | exact L.out.alloc L.out.size _ : Below w.heap.size w _).trans (hb_.mono (by first | exact L.out.size | (simp; have := L.out.size; omega)))); replace Bbx := Aside.mk ((by first | exact Bbx.out | exact Bbx.out.old _ : Blk _ bx x.cells 25).below hb_); replace Bcx := Aside.mk ((by first | exact Bcx.out | exact Bcx.out.old _ : Blk _ cx y.cells 27).below hb_); clear hcell; have hcell := cell_next hb_ (by first | exact CE.out | exact cell_next (w := _) ((Below.refl _ _).alloc (Nat.le_refl _) _) CE.out); clear CE; have CE := Aside.mk hcell; obtain ⟨cq, hcq⟩ : ∃ cq, w_.heap.size = cq := ⟨_, rfl⟩; clear hb_) | ((with_reducible refine at_store (p := 12) rfl ?_); refine store_new rfl 25 _ _ _ x.cells (by rfl) bz hbz (by rfl) (by rfl) (by kernel_rfl) rfl (ml_one _) ?_) | ((with_reducible refine at_store (p := 14) rfl ?_); refine store_new rfl 27 _ _ _ y.cells (by rfl) cz hcz (by rfl) (by rfl) (by kernel_rfl) rfl (rc_one _) ?_) | ((with_reducible refine at_store (p := 16) rfl ?_); refine store_new rfl 25 _ _ _ m2.cells (by rfl) bq hbq (by rfl) (by rfl) (by kernel_rfl) rfl (ml_one _) ?_) | ((with_reducible refine at_store (p := 18) rfl ?_); refine store_new rfl 27 _ _ _ r2.cells (by rfl) cq hcq (by rfl) (by rfl) (by kernel_rfl) rfl (rc_one _) ?_) | ((with_reducible refine at_dst (N := 117) rfl ?_); refine step_value_g (by kernel_rfl) (.int .i64 q) (rem_run k rl.length q hk hk2 hn0 hq hql (by omega) _ _ _ _ _ (by rfl) (by rfl) (by rfl)) ?_) | ((with_reducible refine at_dst (N := 131) rfl ?_); refine step_value_g (by kernel_rfl) (.int .i64 q) (rem_run k rl.length q hk hk2 hn0 hq hql (by omega) _ _ _ _ _ (by rfl) (by rfl) (by rfl)) ?_) | ((with_reducible refine at_dst (N := 119) rfl ?_); refine step_value_g (by kernel_rfl) (.string v) (load_run ⟨b_, o_ + q, none⟩ v _ (by first | exact CE.out | exact cell_next (w := _) ((Below.refl _ _).alloc (Nat.le_refl _) _) CE.out) _ _ _ (by rfl) (by rfl)) ?_) | ((with_reducible refine at_dst (N := 133) rfl ?_); refine step_value_g (by kernel_rfl) (.string v) (load_run ⟨b_, o_ + q, none⟩ v _ (by first | exact CE.out | exact cell_next (w := _) ((Below.refl _ _).alloc (Nat.le_refl _) _) CE.out) _ _ _ (by rfl) (by rfl)) ?_) | ((with_reducible refine at_dst (N := 92) rfl ?_); refine load_blk_g bz 25 (by kernel_rfl) _ (by rfl) (by rfl) x.cells 25 _ (by first | exact Bbz.out | exact Bbz.out.old _) Tryz.underlying25 rfl (by kernel_rfl) ?_) | ((with_reducible refine at_dst (N := 93) rfl ?_); refine load_blk_g bx 25 (by kernel_rfl) _ (by rfl) (by rfl) x.cells 25 _ (by first | exact Bbx.out | exact Bbx.out.old _ ) Tryz.underlying25 rfl (by kernel_rfl) ?_) | ((with_reducible refine at_dst (N := 94) rfl ?_); refine step_value_g (by kernel_rfl) (.bool false) (neq_ml x _ _ _ _ _ _ (by rfl) (by rfl) (by rfl)) ?_) | ((with_reducible refine at_dst (N := 104) rfl ?_); refine load_blk_g cz 27 (by kernel_rfl) _ (by rfl) (by rfl) y.cells 27 _ (blk_at hcz) Tryz.underlying27 rfl (by kernel_rfl) ?_) | ((with_reducible refine at_dst (N := 105) rfl ?_); refine load_blk_g cx 27 (by kernel_rfl) _ (by rfl) (by rfl) y.cells 27 _ (by first | exact Bcx.out | exact Bcx.out.old _ ) Tryz.underlying27 rfl (by kernel_rfl) ?_) | ((with_reducible refine at_dst (N := 106) rfl ?_); refine step_value_g (by kernel_rfl) (.bool false) (neq_rc y _ _ _ _ _ _ (by rfl) (by rfl) (by rfl)) ?_))
      all_goals
        go_ret
        exact ⟨rfl, by first | exact L.out | exact L.out.alloc L.out.size _⟩
set_option maxHeartbeats 16000000 in
theorem order_w10 (s : ByteArray) (hs : s.size ≤ 3000) (hne : s ≠ ⟨#[]⟩) (k : Int) (hk : 0 ≤ k) (hk2 : I64 k) (x : Ml) (ex : Int) (hx : Pm.parseMail s = (x, ex)) (y : Rc) (ey : Int) (hy : Pm.parseRcpt s = (y, ey))
    (cx : ex = 0) (cy : ey ≠ 0) (w : World) (hl : Lv w) :
    Calls Tryz.prog 5 #[.string s, .int .i64 k] w fun e w' => e = .returned (.bool true) ∧ Below w.heap.size w w' := by
  have haw := fun W (hW : Lv W) => awake_any W hW
  have hpm := fun W (hW : Lv W) => parseMail_any s (by omega) W hW
  have hpr := fun W (hW : Lv W) => parseRcpt_any s (by omega) W hW
  have hwd := fun W => lwords_any s (by omega) W
  have hsl : s.data.toList ≠ [] := fun e => hne (by apply ByteArray.ext; apply Array.toList_inj.1; exact e)
  have hpn := parts_ne 32 s
  have hplen := Pm.parts_len s
  have hpsz := Pm.part_size s
  have htd := Pm.turn_done _ hpn
  have hmt : ex = 0 → Pm.parseMail (joinB (parts 32 s).reverse ⟨#[32]⟩) = (x, 0) := fun e => by
    rw [Pm.mail_turned s hsl (by rw [hx]; exact e), hx, e]
  have hrt : ey = 0 → Pm.parseRcpt (joinB (parts 32 s).reverse ⟨#[32]⟩) = (y, 0) := fun e => by
    rw [Pm.rcpt_turned s hsl (by rw [hy]; exact e), hy, e]
  have hm2 : ex = 0 → ∀ v ∈ parts 32 s, (Pm.parseMail (s ++ ⟨#[32]⟩ ++ v)).2 = 11 := fun e v hv => Pm.mail_twice s hsl (by rw [hx]; exact e) v hv
  have hr2 : ey = 0 → ∀ v ∈ parts 32 s, (Pm.parseRcpt (s ++ ⟨#[32]⟩ ++ v)).2 = 11 := fun e v hv => Pm.rcpt_twice s hsl (by rw [hy]; exact e) v hv
  rw [← htd] at hmt hrt
  obtain ⟨rl, hrl⟩ : ∃ rl, parts 32 s = rl := ⟨_, rfl⟩
  rw [hrl] at hwd hpn hplen hpsz hmt hrt hm2 hr2
  clear htd hrl
  have hn0 : 0 < rl.length := List.length_pos_iff.2 hpn
  have hts := Pm.turn_size rl s.size hpsz
  have htb : ∀ j, j ≤ rl.length → (Pm.turnT rl j).size ≤ 10000000 := fun j hj => by
    have h1 := hts j hj
    have h2 : j * (s.size + 1) ≤ 3001 * 3001 := Nat.mul_le_mul (by omega) (by omega)
    omega
  obtain ⟨q, hq⟩ : ∃ q : Nat, k.tmod (rl.length : Int) = q := ⟨(k.tmod rl.length).toNat, by
    have := Int.tmod_nonneg (rl.length : Int) hk
    omega⟩
  have hql : q < rl.length := by
    have := Int.tmod_lt_of_pos k (show (0 : Int) < rl.length by omega)
    omega
  have htm := fun W (hW : Lv W) => parseMail_any (Pm.turnT rl rl.length) (by have := htb _ (Nat.le_refl _); omega) W hW
  have htr := fun W (hW : Lv W) => parseRcpt_any (Pm.turnT rl rl.length) (by have := htb _ (Nat.le_refl _); omega) W hW
  have hz := hpsz rl[q] (List.getElem_mem hql)
  have hsz2 : (s ++ ⟨#[32]⟩ ++ rl[q]).size ≤ 100000 := by
    have e1 : (⟨#[32]⟩ : ByteArray).size = 1 := rfl
    simp only [ByteArray.size_append, e1]; omega
  have htw := fun W (hW : Lv W) => parseMail_any (s ++ ⟨#[32]⟩ ++ rl[q]) (by omega) W hW
  have htu := fun W (hW : Lv W) => parseRcpt_any (s ++ ⟨#[32]⟩ ++ rl[q]) (by omega) W hW
  have hm3 := fun e => hm2 e rl[q] (List.getElem_mem hql)
  have hr3 := fun e => hr2 e rl[q] (List.getElem_mem hql)
  clear hm2 hr2
  rw [hx] at hpm
  rw [hy] at hpr
  subst cx
  rw [hmt rfl] at htm
  obtain ⟨m2, hm4⟩ : ∃ m2, (Pm.parseMail (s ++ ⟨#[32]⟩ ++ rl[q])).1 = m2 := ⟨_, rfl⟩
  rw [hm3 rfl, hm4] at htw
  obtain ⟨n, hn⟩ : ∃ n, n = x := ⟨_, rfl⟩
  obtain ⟨n', eg', hn'⟩ : ∃ n eg, Pm.parseRcpt (Pm.turnT rl rl.length) = (n, eg) := ⟨_, _, rfl⟩
  obtain ⟨r2, eh', hr4⟩ : ∃ m2 eh, Pm.parseRcpt (s ++ ⟨#[32]⟩ ++ rl[q]) = (m2, eh) := ⟨_, _, rfl⟩
  rw [hn'] at htr
  rw [hr4] at htu
  have by1 : (ey == 0) = false := by simpa using cy
  have by2 : (ey != 0) = true := by simpa using cy
  clear cy
  dsimp only at hpm hpr htm htr htw htu
  clear hx hy hmt hrt hm3 hr3 hm4 hr4 hn hn' hts
  have hs2 : decide ((3000 : Int) < (s.size : Int)) = false := decide_eq_false (by omega)
  have hk3 : decide (k < 0) = false := decide_eq_false (by omega)
  have hsb : s.toList.isEmpty = false := by rw [Lib.toList_data]; cases hl : s.data.toList with | nil => exact absurd hl hsl | cons _ _ => rfl
  have HP := Aside.mk hpsz
  have HT := Aside.mk htb
  have HSL := Aside.mk hsl
  clear hpsz htb hsl hpn hne
  have L : Aside (Below w.heap.size w w) := ⟨Below.refl _ _⟩
  go_enter Tryz.func5, Tryz.ntmps5
  go_wp2_with (first | (go_at_call 7; (with_reducible refine (haw _ (hl.next (by first | exact L.out | exact L.out.alloc L.out.size _))).mono ?_); rintro e w_ ⟨rfl, hb_⟩; replace L := Aside.mk ((by first | exact L.out | exact L.out.alloc L.out.size _ : Below w.heap.size w _).trans (hb_.mono (by first | exact L.out.size | (simp; have := L.out.size; omega)))); clear hb_) | (go_at_call 16; (with_reducible refine (hpm _ (hl.next (by first | exact L.out | exact L.out.alloc L.out.size _))).mono ?_); rintro e w_ ⟨rfl, hb_⟩; replace L := Aside.mk ((by first | exact L.out | exact L.out.alloc L.out.size _ : Below w.heap.size w _).trans (hb_.mono (by first | exact L.out.size | (simp; have := L.out.size; omega)))); obtain ⟨bx, hbx⟩ : ∃ bx, w_.heap.size = bx := ⟨_, rfl⟩; clear hb_) | (go_at_call 17; (with_reducible refine (hpr _ (hl.next (by first | exact L.out | exact L.out.alloc L.out.size _))).mono ?_); rintro e w_ ⟨rfl, hb_⟩; replace L := Aside.mk ((by first | exact L.out | exact L.out.alloc L.out.size _ : Below w.heap.size w _).trans (hb_.mono (by first | exact L.out.size | (simp; have := L.out.size; omega)))); have Bbx := Aside.mk (blk_named hb_ bx hbx); clear hbx; obtain ⟨cx, hcx⟩ : ∃ cx, w_.heap.size = cx := ⟨_, rfl⟩; clear hb_) | ((with_reducible refine at_store (p := 5) rfl ?_); refine store_new rfl 25 _ _ _ x.cells (by rfl) bx hbx (by rfl) (by rfl) (by kernel_rfl) rfl (ml_one _) ?_) | ((with_reducible refine at_store (p := 7) rfl ?_); refine store_new rfl 27 _ _ _ y.cells (by rfl) cx hcx (by rfl) (by rfl) (by kernel_rfl) rfl (rc_one _) ?_) | (go_at_call 18; (with_reducible refine (hwd _).mono ?_); rintro e w_ ⟨⟨A_, c_, rfl, hst_⟩, hb_⟩; replace L := Aside.mk ((by first | exact L.out | exact L.out.alloc L.out.size _ : Below w.heap.size w _).trans (hb_.mono (by first | exact L.out.size | (simp; have := L.out.size; omega)))); replace Bbx := Aside.mk ((by first | exact Bbx.out | exact Bbx.out.old _ : Blk _ bx x.cells 25).below hb_); have Bcx := Aside.mk (blk_named hb_ cx hcx); clear hcx; have ST := Aside.mk hst_; clear hb_ hst_))
  go_loopw [10, 11] (fun t i wr => wr = w_ ∧ ∃ j : Nat, j ≤ rl.length ∧ i = .int .i64 ((rl.length : Int) - 1 - j) ∧ t = .string (Pm.turnT rl j)) (fun _ i _ => (intOf i + 1).toNat)
  case atStart => exact ⟨rfl, 0, by omega, by simp, rfl⟩
  case round =>
    obtain ⟨rfl, j, hj, rfl, rfl⟩ := hrel
    by_cases hlt : j < rl.length
    · obtain ⟨kk, hkk⟩ : ∃ kk : Nat, rl.length = kk + 1 + j := ⟨rl.length - 1 - j, by omega⟩
      have hi : (rl.length : Int) - 1 - j = kk := by omega
      rw [hi]
      have hkl : kk < rl.length := by omega
      obtain ⟨b_, o_, rfl, hb2_, hcell⟩ := ST.out.at kk hkl
      have hy1 := HT.out j (by omega)
      have hy2 := HP.out rl[kk] (List.getElem_mem hkl)
      have hA1 : ¬ 9223372036854775807 < (Pm.turnT rl j).size + rl[kk].size := by omega
      have hA2 : ¬ 9223372036854775807 < (Pm.turnT rl j).size + rl[kk].size + 1 := by omega
      rcases Nat.eq_zero_or_pos kk with rfl | hkp
      · have e := Pm.turn_last hkk hn0
        rw [Nat.add_zero] at hcell
        go_wp2
        go_roundw
        case rel => exact ⟨by first | trivial | rfl, j + 1, by omega, by first | (simp; done) | (simp; omega), by rw [e]⟩
        case measure => first | (simp [intOf]; done) | (simp [intOf]; omega)
      · have e := Pm.turn_less hkk hkp hkl
        go_wp2
        go_roundw
        case rel => exact ⟨by first | trivial | rfl, j + 1, by omega, by first | (simp; done) | (simp; omega), by rw [e]⟩
        case measure => first | (simp [intOf]; done) | (simp [intOf]; omega)
    · have hje : j = rl.length := by omega
      subst hje
      rw [show (rl.length : Int) - 1 - rl.length = -1 by omega]
      obtain ⟨b_, o_, rfl, hb2_, hcell⟩ := ST.out.at q hql
      obtain ⟨tt, htt⟩ : ∃ tt, Pm.turnT rl rl.length = tt := ⟨_, rfl⟩
      rw [htt] at htm htr ⊢
      have hA1 : ¬ 9223372036854775807 < s.size + 1 := by omega
      have hA2 : ¬ 9223372036854775807 < s.size + 1 + rl[q].size := by omega
      have hn1 : ((rl.length : Int) == 0) = false := by rw [beq_eq_false_iff_ne]; omega
      generalize rl[q] = v at *
      have CE := Aside.mk hcell
      clear ST htt hj hlt
      go_wp2_with (first | (go_at_call 16; (with_reducible refine (htm _ (hl.next (by first | exact L.out | exact L.out.alloc L.out.size _))).mono ?_); rintro e w_ ⟨rfl, hb_⟩; replace L := Aside.mk ((by first | exact L.out | exact L.out.alloc L.out.size _ : Below w.heap.size w _).trans (hb_.mono (by first | exact L.out.size | (simp; have := L.out.size; omega)))); replace Bbx := Aside.mk ((by first | exact Bbx.out | exact Bbx.out.old _ : Blk _ bx x.cells 25).below hb_); replace Bcx := Aside.mk ((by first | exact Bcx.out | exact Bcx.out.old _ : Blk _ cx y.cells 27).below hb_); clear hcell; have hcell := cell_next hb_ CE.out; clear CE; have CE := Aside.mk hcell; obtain ⟨bz, hbz⟩ : ∃ bz, w_.heap.size = bz := ⟨_, rfl⟩; clear hb_) | (go_at_call 17; (with_reducible refine (htr _ (hl.next (by first | exact L.out | exact L.out.alloc L.out.size _))).mono ?_); rintro e w_ ⟨rfl, hb_⟩; replace L := Aside.mk ((by first | exact L.out | exact L.out.alloc L.out.size _ : Below w.heap.size w _).trans (hb_.mono (by first | exact L.out.size | (simp; have := L.out.size; omega)))); replace Bbx := Aside.mk ((by first | exact Bbx.out | exact Bbx.out.old _ : Blk _ bx x.cells 25).below hb_); replace Bcx := Aside.mk ((by first | exact Bcx.out | exact Bcx.out.old _ : Blk _ cx y.cells 27).below hb_); have Bbz := Aside.mk (blk_named hb_ bz hbz); clear hbz; clear hcell; have hcell := cell_next hb_ (by first | exact CE.out | exact cell_next (w := _) ((Below.refl _ _).alloc (Nat.le_refl _) _) CE.out); clear CE; have CE := Aside.mk hcell; obtain ⟨cz, hcz⟩ : ∃ cz, w_.heap.size = cz := ⟨_, rfl⟩; clear hb_) | (go_at_call 16; (with_reducible refine (htw _ (hl.next (by first | exact L.out | exact L.out.alloc L.out.size _))).mono ?_); rintro e w_ ⟨rfl, hb_⟩; replace L := Aside.mk ((by first | exact L.out | exact L.out.alloc L.out.size _ : Below w.heap.size w _).trans (hb_.mono (by first | exact L.out.size | (simp; have := L.out.size; omega)))); replace Bbx := Aside.mk ((by first | exact Bbx.out | exact Bbx.out.old _ : Blk _ bx x.cells 25).below hb_); replace Bcx := Aside.mk ((by first | exact Bcx.out | exact Bcx.out.old _ : Blk _ cx y.cells 27).below hb_); clear hcell; have hcell := cell_next hb_ (by first | exact CE.out | exact cell_next (w := _) ((Below.refl _ _).alloc (Nat.le_refl _) _) CE.out); clear CE; have CE := Aside.mk hcell; obtain ⟨bq, hbq⟩ : ∃ bq, w_.heap.size = bq := ⟨_, rfl⟩; clear hb_) | (go_at_call 17; (with_reducible refine (htu _ (hl.next (by first | exact L.out | exact L.out.alloc L.out.size _))).mono ?_); rintro e w_ ⟨rfl, hb_⟩; replace L := Aside.mk ((by first | exact L.out | exact L.out.alloc L.out.size _ : Below w.heap.size w _).trans (hb_.mono (by first | exact L.out.size | (simp; have := L.out.size; omega)))); replace Bbx := Aside.mk ((by first | exact Bbx.out | exact Bbx.out.old _ : Blk _ bx x.cells 25).below hb_); replace Bcx := Aside.mk ((by first | exact Bcx.out | exact Bcx.out.old _ : Blk _ cx y.cells 27).below hb_); clear hcell; have hcell := cell_next hb_ (by first | exact CE.out | exact cell_next (w := _) ((Below.refl _ _).alloc (Nat.le_refl _) _) CE.out); clear CE; have CE := Aside.mk hcell; obtain ⟨cq, hcq⟩ : ∃ cq, w_.heap.size = cq := ⟨_, rfl⟩; clear hb_) | ((with_reducible refine at_store (p := 12) rfl ?_); refine store_new rfl 25 _ _ _ x.cells (by rfl) bz hbz (by rfl) (by rfl) (by kernel_rfl) rfl (ml_one _) ?_) | ((with_reducible refine at_store (p := 14) rfl ?_); refine store_new rfl 27 _ _ _ n'.cells (by rfl) cz hcz (by rfl) (by rfl) (by kernel_rfl) rfl (rc_one _) ?_) | ((with_reducible refine at_store (p := 16) rfl ?_); refine store_new rfl 25 _ _ _ m2.cells (by rfl) bq hbq (by rfl) (by rfl) (by kernel_rfl) rfl (ml_one _) ?_) | ((with_reducible refine at_store (p := 18) rfl ?_); refine store_new rfl 27 _ _ _ r2.cells (by rfl) cq hcq (by rfl) (by rfl) (by kernel_rfl) rfl (rc_one _) ?_) | ((with_reducible refine at_dst (N := 117) rfl ?_); refine step_value_g (by kernel_rfl) (.int .i64 q) (rem_run k rl.length q hk hk2 hn0 hq hql (by omega) _ _ _ _ _ (by rfl) (by rfl) (by rfl)) ?_) | ((with_reducible refine at_dst (N := 131) rfl ?_); refine step_value_g (by kernel_rfl) (.int .i64 q) (rem_run k rl.length q hk hk2 hn0 hq hql (by omega) _ _ _ _ _ (by rfl) (by rfl) (by rfl)) ?_) | ((with_reducible refine at_dst (N := 119) rfl ?_); refine step_value_g (by kernel_rfl) (.string v) (load_run ⟨b_, o_ + q, none⟩ v _ (by first | exact CE.out | exact cell_next (w := _) ((Below.refl _ _).alloc (Nat.le_refl _) _) CE.out) _ _ _ (by rfl) (by rfl)) ?_) | ((with_reducible refine at_dst (N := 133) rfl ?_); refine step_value_g (by kernel_rfl) (.string v) (load_run ⟨b_, o_ + q, none⟩ v _ (by first | exact CE.out | exact cell_next (w := _) ((Below.refl _ _).alloc (Nat.le_refl _) _) CE.out) _ _ _ (by rfl) (by rfl)) ?_) | ((with_reducible refine at_dst (N := 92) rfl ?_); refine load_blk_g bz 25 (by kernel_rfl) _ (by rfl) (by rfl) x.cells 25 _ (by first | exact Bbz.out | exact Bbz.out.old _) Tryz.underlying25 rfl (by kernel_rfl) ?_) | ((with_reducible refine at_dst (N := 93) rfl ?_); refine load_blk_g bx 25 (by kernel_rfl) _ (by rfl) (by rfl) x.cells 25 _ (by first | exact Bbx.out | exact Bbx.out.old _ ) Tryz.underlying25 rfl (by kernel_rfl) ?_) | ((with_reducible refine at_dst (N := 94) rfl ?_); refine step_value_g (by kernel_rfl) (.bool false) (neq_ml x _ _ _ _ _ _ (by rfl) (by rfl) (by rfl)) ?_))
      all_goals
        go_ret
        exact ⟨rfl, by first | exact L.out | exact L.out.alloc L.out.size _⟩
set_option maxHeartbeats 16000000 in
theorem order_w01 (s : ByteArray) (hs : s.size ≤ 3000) (hne : s ≠ ⟨#[]⟩) (k : Int) (hk : 0 ≤ k) (hk2 : I64 k) (x : Ml) (ex : Int) (hx : Pm.parseMail s = (x, ex)) (y : Rc) (ey : Int) (hy : Pm.parseRcpt s = (y, ey))
    (cx : ex ≠ 0) (cy : ey = 0) (w : World) (hl : Lv w) :
    Calls Tryz.prog 5 #[.string s, .int .i64 k] w fun e w' => e = .returned (.bool true) ∧ Below w.heap.size w w' := by
  have haw := fun W (hW : Lv W) => awake_any W hW
  have hpm := fun W (hW : Lv W) => parseMail_any s (by omega) W hW
  have hpr := fun W (hW : Lv W) => parseRcpt_any s (by omega) W hW
  have hwd := fun W => lwords_any s (by omega) W
  have hsl : s.data.toList ≠ [] := fun e => hne (by apply ByteArray.ext; apply Array.toList_inj.1; exact e)
  have hpn := parts_ne 32 s
  have hplen := Pm.parts_len s
  have hpsz := Pm.part_size s
  have htd := Pm.turn_done _ hpn
  have hmt : ex = 0 → Pm.parseMail (joinB (parts 32 s).reverse ⟨#[32]⟩) = (x, 0) := fun e => by
    rw [Pm.mail_turned s hsl (by rw [hx]; exact e), hx, e]
  have hrt : ey = 0 → Pm.parseRcpt (joinB (parts 32 s).reverse ⟨#[32]⟩) = (y, 0) := fun e => by
    rw [Pm.rcpt_turned s hsl (by rw [hy]; exact e), hy, e]
  have hm2 : ex = 0 → ∀ v ∈ parts 32 s, (Pm.parseMail (s ++ ⟨#[32]⟩ ++ v)).2 = 11 := fun e v hv => Pm.mail_twice s hsl (by rw [hx]; exact e) v hv
  have hr2 : ey = 0 → ∀ v ∈ parts 32 s, (Pm.parseRcpt (s ++ ⟨#[32]⟩ ++ v)).2 = 11 := fun e v hv => Pm.rcpt_twice s hsl (by rw [hy]; exact e) v hv
  rw [← htd] at hmt hrt
  obtain ⟨rl, hrl⟩ : ∃ rl, parts 32 s = rl := ⟨_, rfl⟩
  rw [hrl] at hwd hpn hplen hpsz hmt hrt hm2 hr2
  clear htd hrl
  have hn0 : 0 < rl.length := List.length_pos_iff.2 hpn
  have hts := Pm.turn_size rl s.size hpsz
  have htb : ∀ j, j ≤ rl.length → (Pm.turnT rl j).size ≤ 10000000 := fun j hj => by
    have h1 := hts j hj
    have h2 : j * (s.size + 1) ≤ 3001 * 3001 := Nat.mul_le_mul (by omega) (by omega)
    omega
  obtain ⟨q, hq⟩ : ∃ q : Nat, k.tmod (rl.length : Int) = q := ⟨(k.tmod rl.length).toNat, by
    have := Int.tmod_nonneg (rl.length : Int) hk
    omega⟩
  have hql : q < rl.length := by
    have := Int.tmod_lt_of_pos k (show (0 : Int) < rl.length by omega)
    omega
  have htm := fun W (hW : Lv W) => parseMail_any (Pm.turnT rl rl.length) (by have := htb _ (Nat.le_refl _); omega) W hW
  have htr := fun W (hW : Lv W) => parseRcpt_any (Pm.turnT rl rl.length) (by have := htb _ (Nat.le_refl _); omega) W hW
  have hz := hpsz rl[q] (List.getElem_mem hql)
  have hsz2 : (s ++ ⟨#[32]⟩ ++ rl[q]).size ≤ 100000 := by
    have e1 : (⟨#[32]⟩ : ByteArray).size = 1 := rfl
    simp only [ByteArray.size_append, e1]; omega
  have htw := fun W (hW : Lv W) => parseMail_any (s ++ ⟨#[32]⟩ ++ rl[q]) (by omega) W hW
  have htu := fun W (hW : Lv W) => parseRcpt_any (s ++ ⟨#[32]⟩ ++ rl[q]) (by omega) W hW
  have hm3 := fun e => hm2 e rl[q] (List.getElem_mem hql)
  have hr3 := fun e => hr2 e rl[q] (List.getElem_mem hql)
  clear hm2 hr2
  rw [hx] at hpm
  rw [hy] at hpr
  obtain ⟨n, eg, hn⟩ : ∃ n eg, Pm.parseMail (Pm.turnT rl rl.length) = (n, eg) := ⟨_, _, rfl⟩
  obtain ⟨m2, eh, hm4⟩ : ∃ m2 eh, Pm.parseMail (s ++ ⟨#[32]⟩ ++ rl[q]) = (m2, eh) := ⟨_, _, rfl⟩
  rw [hn] at htm
  rw [hm4] at htw
  have bx1 : (ex == 0) = false := by simpa using cx
  have bx2 : (ex != 0) = true := by simpa using cx
  clear cx
  subst cy
  rw [hrt rfl] at htr
  obtain ⟨r2, hr4⟩ : ∃ r2, (Pm.parseRcpt (s ++ ⟨#[32]⟩ ++ rl[q])).1 = r2 := ⟨_, rfl⟩
  rw [hr3 rfl, hr4] at htu
  obtain ⟨n', hn'⟩ : ∃ n, n = y := ⟨_, rfl⟩
  dsimp only at hpm hpr htm htr htw htu
  clear hx hy hmt hrt hm3 hr3 hm4 hr4 hn hn' hts
  have hs2 : decide ((3000 : Int) < (s.size : Int)) = false := decide_eq_false (by omega)
  have hk3 : decide (k < 0) = false := decide_eq_false (by omega)
  have hsb : s.toList.isEmpty = false := by rw [Lib.toList_data]; cases hl : s.data.toList with | nil => exact absurd hl hsl | cons _ _ => rfl
  have HP := Aside.mk hpsz
  have HT := Aside.mk htb
  have HSL := Aside.mk hsl
  clear hpsz htb hsl hpn hne
  have L : Aside (Below w.heap.size w w) := ⟨Below.refl _ _⟩
  go_enter Tryz.func5, Tryz.ntmps5
  go_wp2_with (first | (go_at_call 7; (with_reducible refine (haw _ (hl.next (by first | exact L.out | exact L.out.alloc L.out.size _))).mono ?_); rintro e w_ ⟨rfl, hb_⟩; replace L := Aside.mk ((by first | exact L.out | exact L.out.alloc L.out.size _ : Below w.heap.size w _).trans (hb_.mono (by first | exact L.out.size | (simp; have := L.out.size; omega)))); clear hb_) | (go_at_call 16; (with_reducible refine (hpm _ (hl.next (by first | exact L.out | exact L.out.alloc L.out.size _))).mono ?_); rintro e w_ ⟨rfl, hb_⟩; replace L := Aside.mk ((by first | exact L.out | exact L.out.alloc L.out.size _ : Below w.heap.size w _).trans (hb_.mono (by first | exact L.out.size | (simp; have := L.out.size; omega)))); obtain ⟨bx, hbx⟩ : ∃ bx, w_.heap.size = bx := ⟨_, rfl⟩; clear hb_) | (go_at_call 17; (with_reducible refine (hpr _ (hl.next (by first | exact L.out | exact L.out.alloc L.out.size _))).mono ?_); rintro e w_ ⟨rfl, hb_⟩; replace L := Aside.mk ((by first | exact L.out | exact L.out.alloc L.out.size _ : Below w.heap.size w _).trans (hb_.mono (by first | exact L.out.size | (simp; have := L.out.size; omega)))); have Bbx := Aside.mk (blk_named hb_ bx hbx); clear hbx; obtain ⟨cx, hcx⟩ : ∃ cx, w_.heap.size = cx := ⟨_, rfl⟩; clear hb_) | ((with_reducible refine at_store (p := 5) rfl ?_); refine store_new rfl 25 _ _ _ x.cells (by rfl) bx hbx (by rfl) (by rfl) (by kernel_rfl) rfl (ml_one _) ?_) | ((with_reducible refine at_store (p := 7) rfl ?_); refine store_new rfl 27 _ _ _ y.cells (by rfl) cx hcx (by rfl) (by rfl) (by kernel_rfl) rfl (rc_one _) ?_) | (go_at_call 18; (with_reducible refine (hwd _).mono ?_); rintro e w_ ⟨⟨A_, c_, rfl, hst_⟩, hb_⟩; replace L := Aside.mk ((by first | exact L.out | exact L.out.alloc L.out.size _ : Below w.heap.size w _).trans (hb_.mono (by first | exact L.out.size | (simp; have := L.out.size; omega)))); replace Bbx := Aside.mk ((by first | exact Bbx.out | exact Bbx.out.old _ : Blk _ bx x.cells 25).below hb_); have Bcx := Aside.mk (blk_named hb_ cx hcx); clear hcx; have ST := Aside.mk hst_; clear hb_ hst_))
  go_loopw [10, 11] (fun t i wr => wr = w_ ∧ ∃ j : Nat, j ≤ rl.length ∧ i = .int .i64 ((rl.length : Int) - 1 - j) ∧ t = .string (Pm.turnT rl j)) (fun _ i _ => (intOf i + 1).toNat)
  case atStart => exact ⟨rfl, 0, by omega, by simp, rfl⟩
  case round =>
    obtain ⟨rfl, j, hj, rfl, rfl⟩ := hrel
    by_cases hlt : j < rl.length
    · obtain ⟨kk, hkk⟩ : ∃ kk : Nat, rl.length = kk + 1 + j := ⟨rl.length - 1 - j, by omega⟩
      have hi : (rl.length : Int) - 1 - j = kk := by omega
      rw [hi]
      have hkl : kk < rl.length := by omega
      obtain ⟨b_, o_, rfl, hb2_, hcell⟩ := ST.out.at kk hkl
      have hy1 := HT.out j (by omega)
      have hy2 := HP.out rl[kk] (List.getElem_mem hkl)
      have hA1 : ¬ 9223372036854775807 < (Pm.turnT rl j).size + rl[kk].size := by omega
      have hA2 : ¬ 9223372036854775807 < (Pm.turnT rl j).size + rl[kk].size + 1 := by omega
      rcases Nat.eq_zero_or_pos kk with rfl | hkp
      · have e := Pm.turn_last hkk hn0
        rw [Nat.add_zero] at hcell
        go_wp2
        go_roundw
        case rel => exact ⟨by first | trivial | rfl, j + 1, by omega, by first | (simp; done) | (simp; omega), by rw [e]⟩
        case measure => first | (simp [intOf]; done) | (simp [intOf]; omega)
      · have e := Pm.turn_less hkk hkp hkl
        go_wp2
        go_roundw
        case rel => exact ⟨by first | trivial | rfl, j + 1, by omega, by first | (simp; done) | (simp; omega), by rw [e]⟩
        case measure => first | (simp [intOf]; done) | (simp [intOf]; omega)
    · have hje : j = rl.length := by omega
      subst hje
      rw [show (rl.length : Int) - 1 - rl.length = -1 by omega]
      obtain ⟨b_, o_, rfl, hb2_, hcell⟩ := ST.out.at q hql
      obtain ⟨tt, htt⟩ : ∃ tt, Pm.turnT rl rl.length = tt := ⟨_, rfl⟩
      rw [htt] at htm htr ⊢
      have hA1 : ¬ 9223372036854775807 < s.size + 1 := by omega
      have hA2 : ¬ 9223372036854775807 < s.size + 1 + rl[q].size := by omega
      have hn1 : ((rl.length : Int) == 0) = false := by rw [beq_eq_false_iff_ne]; omega
      generalize rl[q] = v at *
      have CE := Aside.mk hcell
      clear ST htt hj hlt
      go_wp2_with (first | (go_at_call 16; (with_reducible refine (htm _ (hl.next (by first | exact L.out | exact L.out.alloc L.out.size _))).mono ?_); rintro e w_ ⟨rfl, hb_⟩; replace L := Aside.mk ((by first | exact L.out | exact L.out.alloc L.out.size _ : Below w.heap.size w _).trans (hb_.mono (by first | exact L.out.size | (simp; have := L.out.size; omega)))); replace Bbx := Aside.mk ((by first | exact Bbx.out | exact Bbx.out.old _ : Blk _ bx x.cells 25).below hb_); replace Bcx := Aside.mk ((by first | exact Bcx.out | exact Bcx.out.old _ : Blk _ cx y.cells 27).below hb_); clear hcell; have hcell := cell_next hb_ CE.out; clear CE; have CE := Aside.mk hcell; obtain ⟨bz, hbz⟩ : ∃ bz, w_.heap.size = bz := ⟨_, rfl⟩; clear hb_) | (go_at_call 17; (with_reducible refine (htr _ (hl.next (by first | exact L.out | exact L.out.alloc L.out.size _))).mono ?_); rintro e w_ ⟨rfl, hb_⟩; replace L := Aside.mk ((by first | exact L.out | exact L.out.alloc L.out.size _ : Below w.heap.size w _).trans (hb_.mono (by first | exact L.out.size | (simp; have := L.out.size; omega)))); replace Bbx := Aside.mk ((by first | exact Bbx.out | exact Bbx.out.old _ : Blk _ bx x.cells 25).below hb_); replace Bcx := Aside.mk ((by first | exact Bcx.out | exact Bcx.out.old _ : Blk _ cx y.cells 27).below hb_); have Bbz := Aside.mk (blk_named hb_ bz hbz); clear hbz; clear hcell; have hcell := cell_next hb_ (by first | exact CE.out | exact cell_next (w := _) ((Below.refl _ _).alloc (Nat.le_refl _) _) CE.out); clear CE; have CE := Aside.mk hcell; obtain ⟨cz, hcz⟩ : ∃ cz, w_.heap.size = cz := ⟨_, rfl⟩; clear hb_) | (go_at_call 16; (with_reducible refine (htw _ (hl.next (by first | exact L.out | exact L.out.alloc L.out.size _))).mono ?_); rintro e w_ ⟨rfl, hb_⟩; replace L := Aside.mk ((by first | exact L.out | exact L.out.alloc L.out.size _ : Below w.heap.size w _).trans (hb_.mono (by first | exact L.out.size | (simp; have := L.out.size; omega)))); replace Bbx := Aside.mk ((by first | exact Bbx.out | exact Bbx.out.old _ : Blk _ bx x.cells 25).below hb_); replace Bcx := Aside.mk ((by first | exact Bcx.out | exact Bcx.out.old _ : Blk _ cx y.cells 27).below hb_); clear hcell; have hcell := cell_next hb_ (by first | exact CE.out | exact cell_next (w := _) ((Below.refl _ _).alloc (Nat.le_refl _) _) CE.out); clear CE; have CE := Aside.mk hcell; obtain ⟨bq, hbq⟩ : ∃ bq, w_.heap.size = bq := ⟨_, rfl⟩; clear hb_) | (go_at_call 17; (with_reducible refine (htu _ (hl.next (by first | exact L.out | exact L.out.alloc L.out.size _))).mono ?_); rintro e w_ ⟨rfl, hb_⟩; replace L := Aside.mk ((by first | exact L.out | exact L.out.alloc L.out.size _ : Below w.heap.size w _).trans (hb_.mono (by first | exact L.out.size | (simp; have := L.out.size; omega)))); replace Bbx := Aside.mk ((by first | exact Bbx.out | exact Bbx.out.old _ : Blk _ bx x.cells 25).below hb_); replace Bcx := Aside.mk ((by first | exact Bcx.out | exact Bcx.out.old _ : Blk _ cx y.cells 27).below hb_); clear hcell; have hcell := cell_next hb_ (by first | exact CE.out | exact cell_next (w := _) ((Below.refl _ _).alloc (Nat.le_refl _) _) CE.out); clear CE; have CE := Aside.mk hcell; obtain ⟨cq, hcq⟩ : ∃ cq, w_.heap.size = cq := ⟨_, rfl⟩; clear hb_) | ((with_reducible refine at_store (p := 12) rfl ?_); refine store_new rfl 25 _ _ _ n.cells (by rfl) bz hbz (by rfl) (by rfl) (by kernel_rfl) rfl (ml_one _) ?_) | ((with_reducible refine at_store (p := 14) rfl ?_); refine store_new rfl 27 _ _ _ y.cells (by rfl) cz hcz (by rfl) (by rfl) (by kernel_rfl) rfl (rc_one _) ?_) | ((with_reducible refine at_store (p := 16) rfl ?_); refine store_new rfl 25 _ _ _ m2.cells (by rfl) bq hbq (by rfl) (by rfl) (by kernel_rfl) rfl (ml_one _) ?_) | ((with_reducible refine at_store (p := 18) rfl ?_); refine store_new rfl 27 _ _ _ r2.cells (by rfl) cq hcq (by rfl) (by rfl) (by kernel_rfl) rfl (rc_one _) ?_) | ((with_reducible refine at_dst (N := 117) rfl ?_); refine step_value_g (by kernel_rfl) (.int .i64 q) (rem_run k rl.length q hk hk2 hn0 hq hql (by omega) _ _ _ _ _ (by rfl) (by rfl) (by rfl)) ?_) | ((with_reducible refine at_dst (N := 131) rfl ?_); refine step_value_g (by kernel_rfl) (.int .i64 q) (rem_run k rl.length q hk hk2 hn0 hq hql (by omega) _ _ _ _ _ (by rfl) (by rfl) (by rfl)) ?_) | ((with_reducible refine at_dst (N := 119) rfl ?_); refine step_value_g (by kernel_rfl) (.string v) (load_run ⟨b_, o_ + q, none⟩ v _ (by first | exact CE.out | exact cell_next (w := _) ((Below.refl _ _).alloc (Nat.le_refl _) _) CE.out) _ _ _ (by rfl) (by rfl)) ?_) | ((with_reducible refine at_dst (N := 133) rfl ?_); refine step_value_g (by kernel_rfl) (.string v) (load_run ⟨b_, o_ + q, none⟩ v _ (by first | exact CE.out | exact cell_next (w := _) ((Below.refl _ _).alloc (Nat.le_refl _) _) CE.out) _ _ _ (by rfl) (by rfl)) ?_) | ((with_reducible refine at_dst (N := 104) rfl ?_); refine load_blk_g cz 27 (by kernel_rfl) _ (by rfl) (by rfl) y.cells 27 _ (blk_at hcz) Tryz.underlying27 rfl (by kernel_rfl) ?_) | ((with_reducible refine at_dst (N := 105) rfl ?_); refine load_blk_g cx 27 (by kernel_rfl) _ (by rfl) (by rfl) y.cells 27 _ (by first | exact Bcx.out | exact Bcx.out.old _ ) Tryz.underlying27 rfl (by kernel_rfl) ?_) | ((with_reducible refine at_dst (N := 106) rfl ?_); refine step_value_g (by kernel_rfl) (.bool false) (neq_rc y _ _ _ _ _ _ (by rfl) (by rfl) (by rfl)) ?_))
      all_goals
        go_ret
        exact ⟨rfl, by first | exact L.out | exact L.out.alloc L.out.size _⟩
set_option maxHeartbeats 16000000 in
theorem order_w00 (s : ByteArray) (hs : s.size ≤ 3000) (hne : s ≠ ⟨#[]⟩) (k : Int) (hk : 0 ≤ k) (hk2 : I64 k) (x : Ml) (ex : Int) (hx : Pm.parseMail s = (x, ex)) (y : Rc) (ey : Int) (hy : Pm.parseRcpt s = (y, ey))
    (cx : ex ≠ 0) (cy : ey ≠ 0) (w : World) (hl : Lv w) :
    Calls Tryz.prog 5 #[.string s, .int .i64 k] w fun e w' => e = .returned (.bool true) ∧ Below w.heap.size w w' := by
  have haw := fun W (hW : Lv W) => awake_any W hW
  have hpm := fun W (hW : Lv W) => parseMail_any s (by omega) W hW
  have hpr := fun W (hW : Lv W) => parseRcpt_any s (by omega) W hW
  have hwd := fun W => lwords_any s (by omega) W
  have hsl : s.data.toList ≠ [] := fun e => hne (by apply ByteArray.ext; apply Array.toList_inj.1; exact e)
  have hpn := parts_ne 32 s
  have hplen := Pm.parts_len s
  have hpsz := Pm.part_size s
  have htd := Pm.turn_done _ hpn
  have hmt : ex = 0 → Pm.parseMail (joinB (parts 32 s).reverse ⟨#[32]⟩) = (x, 0) := fun e => by
    rw [Pm.mail_turned s hsl (by rw [hx]; exact e), hx, e]
  have hrt : ey = 0 → Pm.parseRcpt (joinB (parts 32 s).reverse ⟨#[32]⟩) = (y, 0) := fun e => by
    rw [Pm.rcpt_turned s hsl (by rw [hy]; exact e), hy, e]
  have hm2 : ex = 0 → ∀ v ∈ parts 32 s, (Pm.parseMail (s ++ ⟨#[32]⟩ ++ v)).2 = 11 := fun e v hv => Pm.mail_twice s hsl (by rw [hx]; exact e) v hv
  have hr2 : ey = 0 → ∀ v ∈ parts 32 s, (Pm.parseRcpt (s ++ ⟨#[32]⟩ ++ v)).2 = 11 := fun e v hv => Pm.rcpt_twice s hsl (by rw [hy]; exact e) v hv
  rw [← htd] at hmt hrt
  obtain ⟨rl, hrl⟩ : ∃ rl, parts 32 s = rl := ⟨_, rfl⟩
  rw [hrl] at hwd hpn hplen hpsz hmt hrt hm2 hr2
  clear htd hrl
  have hn0 : 0 < rl.length := List.length_pos_iff.2 hpn
  have hts := Pm.turn_size rl s.size hpsz
  have htb : ∀ j, j ≤ rl.length → (Pm.turnT rl j).size ≤ 10000000 := fun j hj => by
    have h1 := hts j hj
    have h2 : j * (s.size + 1) ≤ 3001 * 3001 := Nat.mul_le_mul (by omega) (by omega)
    omega
  obtain ⟨q, hq⟩ : ∃ q : Nat, k.tmod (rl.length : Int) = q := ⟨(k.tmod rl.length).toNat, by
    have := Int.tmod_nonneg (rl.length : Int) hk
    omega⟩
  have hql : q < rl.length := by
    have := Int.tmod_lt_of_pos k (show (0 : Int) < rl.length by omega)
    omega
  have htm := fun W (hW : Lv W) => parseMail_any (Pm.turnT rl rl.length) (by have := htb _ (Nat.le_refl _); omega) W hW
  have htr := fun W (hW : Lv W) => parseRcpt_any (Pm.turnT rl rl.length) (by have := htb _ (Nat.le_refl _); omega) W hW
  have hz := hpsz rl[q] (List.getElem_mem hql)
  have hsz2 : (s ++ ⟨#[32]⟩ ++ rl[q]).size ≤ 100000 := by
    have e1 : (⟨#[32]⟩ : ByteArray).size = 1 := rfl
    simp only [ByteArray.size_append, e1]; omega
  have htw := fun W (hW : Lv W) => parseMail_any (s ++ ⟨#[32]⟩ ++ rl[q]) (by omega) W hW
  have htu := fun W (hW : Lv W) => parseRcpt_any (s ++ ⟨#[32]⟩ ++ rl[q]) (by omega) W hW
  have hm3 := fun e => hm2 e rl[q] (List.getElem_mem hql)
  have hr3 := fun e => hr2 e rl[q] (List.getElem_mem hql)
  clear hm2 hr2
  rw [hx] at hpm
  rw [hy] at hpr
  obtain ⟨n, eg, hn⟩ : ∃ n eg, Pm.parseMail (Pm.turnT rl rl.length) = (n, eg) := ⟨_, _, rfl⟩
  obtain ⟨m2, eh, hm4⟩ : ∃ m2 eh, Pm.parseMail (s ++ ⟨#[32]⟩ ++ rl[q]) = (m2, eh) := ⟨_, _, rfl⟩
  rw [hn] at htm
  rw [hm4] at htw
  have bx1 : (ex == 0) = false := by simpa using cx
  have bx2 : (ex != 0) = true := by simpa using cx
  clear cx
  obtain ⟨n', eg', hn'⟩ : ∃ n eg, Pm.parseRcpt (Pm.turnT rl rl.length) = (n, eg) := ⟨_, _, rfl⟩
  obtain ⟨r2, eh', hr4⟩ : ∃ m2 eh, Pm.parseRcpt (s ++ ⟨#[32]⟩ ++ rl[q]) = (m2, eh) := ⟨_, _, rfl⟩
  rw [hn'] at htr
  rw [hr4] at htu
  have by1 : (ey == 0) = false := by simpa using cy
  have by2 : (ey != 0) = true := by simpa using cy
  clear cy
  dsimp only at hpm hpr htm htr htw htu
  clear hx hy hmt hrt hm3 hr3 hm4 hr4 hn hn' hts
  have hs2 : decide ((3000 : Int) < (s.size : Int)) = false := decide_eq_false (by omega)
  have hk3 : decide (k < 0) = false := decide_eq_false (by omega)
  have hsb : s.toList.isEmpty = false := by rw [Lib.toList_data]; cases hl : s.data.toList with | nil => exact absurd hl hsl | cons _ _ => rfl
  have HP := Aside.mk hpsz
  have HT := Aside.mk htb
  have HSL := Aside.mk hsl
  clear hpsz htb hsl hpn hne
  have L : Aside (Below w.heap.size w w) := ⟨Below.refl _ _⟩
  go_enter Tryz.func5, Tryz.ntmps5
  go_wp2_with (first | (go_at_call 7; (with_reducible refine (haw _ (hl.next (by first | exact L.out | exact L.out.alloc L.out.size _))).mono ?_); rintro e w_ ⟨rfl, hb_⟩; replace L := Aside.mk ((by first | exact L.out | exact L.out.alloc L.out.size _ : Below w.heap.size w _).trans (hb_.mono (by first | exact L.out.size | (simp; have := L.out.size; omega)))); clear hb_) | (go_at_call 16; (with_reducible refine (hpm _ (hl.next (by first | exact L.out | exact L.out.alloc L.out.size _))).mono ?_); rintro e w_ ⟨rfl, hb_⟩; replace L := Aside.mk ((by first | exact L.out | exact L.out.alloc L.out.size _ : Below w.heap.size w _).trans (hb_.mono (by first | exact L.out.size | (simp; have := L.out.size; omega)))); obtain ⟨bx, hbx⟩ : ∃ bx, w_.heap.size = bx := ⟨_, rfl⟩; clear hb_) | (go_at_call 17; (with_reducible refine (hpr _ (hl.next (by first | exact L.out | exact L.out.alloc L.out.size _))).mono ?_); rintro e w_ ⟨rfl, hb_⟩; replace L := Aside.mk ((by first | exact L.out | exact L.out.alloc L.out.size _ : Below w.heap.size w _).trans (hb_.mono (by first | exact L.out.size | (simp; have := L.out.size; omega)))); have Bbx := Aside.mk (blk_named hb_ bx hbx); clear hbx; obtain ⟨cx, hcx⟩ : ∃ cx, w_.heap.size = cx := ⟨_, rfl⟩; clear hb_) | ((with_reducible refine at_store (p := 5) rfl ?_); refine store_new rfl 25 _ _ _ x.cells (by rfl) bx hbx (by rfl) (by rfl) (by kernel_rfl) rfl (ml_one _) ?_) | ((with_reducible refine at_store (p := 7) rfl ?_); refine store_new rfl 27 _ _ _ y.cells (by rfl) cx hcx (by rfl) (by rfl) (by kernel_rfl) rfl (rc_one _) ?_) | (go_at_call 18; (with_reducible refine (hwd _).mono ?_); rintro e w_ ⟨⟨A_, c_, rfl, hst_⟩, hb_⟩; replace L := Aside.mk ((by first | exact L.out | exact L.out.alloc L.out.size _ : Below w.heap.size w _).trans (hb_.mono (by first | exact L.out.size | (simp; have := L.out.size; omega)))); replace Bbx := Aside.mk ((by first | exact Bbx.out | exact Bbx.out.old _ : Blk _ bx x.cells 25).below hb_); have Bcx := Aside.mk (blk_named hb_ cx hcx); clear hcx; have ST := Aside.mk hst_; clear hb_ hst_))
  go_loopw [10, 11] (fun t i wr => wr = w_ ∧ ∃ j : Nat, j ≤ rl.length ∧ i = .int .i64 ((rl.length : Int) - 1 - j) ∧ t = .string (Pm.turnT rl j)) (fun _ i _ => (intOf i + 1).toNat)
  case atStart => exact ⟨rfl, 0, by omega, by simp, rfl⟩
  case round =>
    obtain ⟨rfl, j, hj, rfl, rfl⟩ := hrel
    by_cases hlt : j < rl.length
    · obtain ⟨kk, hkk⟩ : ∃ kk : Nat, rl.length = kk + 1 + j := ⟨rl.length - 1 - j, by omega⟩
      have hi : (rl.length : Int) - 1 - j = kk := by omega
      rw [hi]
      have hkl : kk < rl.length := by omega
      obtain ⟨b_, o_, rfl, hb2_, hcell⟩ := ST.out.at kk hkl
      have hy1 := HT.out j (by omega)
      have hy2 := HP.out rl[kk] (List.getElem_mem hkl)
      have hA1 : ¬ 9223372036854775807 < (Pm.turnT rl j).size + rl[kk].size := by omega
      have hA2 : ¬ 9223372036854775807 < (Pm.turnT rl j).size + rl[kk].size + 1 := by omega
      rcases Nat.eq_zero_or_pos kk with rfl | hkp
      · have e := Pm.turn_last hkk hn0
        rw [Nat.add_zero] at hcell
        go_wp2
        go_roundw
        case rel => exact ⟨by first | trivial | rfl, j + 1, by omega, by first | (simp; done) | (simp; omega), by rw [e]⟩
        case measure => first | (simp [intOf]; done) | (simp [intOf]; omega)
      · have e := Pm.turn_less hkk hkp hkl
        go_wp2
        go_roundw
        case rel => exact ⟨by first | trivial | rfl, j + 1, by omega, by first | (simp; done) | (simp; omega), by rw [e]⟩
        case measure => first | (simp [intOf]; done) | (simp [intOf]; omega)
    · have hje : j = rl.length := by omega
      subst hje
      rw [show (rl.length : Int) - 1 - rl.length = -1 by omega]
      obtain ⟨b_, o_, rfl, hb2_, hcell⟩ := ST.out.at q hql
      obtain ⟨tt, htt⟩ : ∃ tt, Pm.turnT rl rl.length = tt := ⟨_, rfl⟩
      rw [htt] at htm htr ⊢
      have hA1 : ¬ 9223372036854775807 < s.size + 1 := by omega
      have hA2 : ¬ 9223372036854775807 < s.size + 1 + rl[q].size := by omega
      have hn1 : ((rl.length : Int) == 0) = false := by rw [beq_eq_false_iff_ne]; omega
      generalize rl[q] = v at *
      have CE := Aside.mk hcell
      clear ST htt hj hlt
      go_wp2_with (first | (go_at_call 16; (with_reducible refine (htm _ (hl.next (by first | exact L.out | exact L.out.alloc L.out.size _))).mono ?_); rintro e w_ ⟨rfl, hb_⟩; replace L := Aside.mk ((by first | exact L.out | exact L.out.alloc L.out.size _ : Below w.heap.size w _).trans (hb_.mono (by first | exact L.out.size | (simp; have := L.out.size; omega)))); replace Bbx := Aside.mk ((by first | exact Bbx.out | exact Bbx.out.old _ : Blk _ bx x.cells 25).below hb_); replace Bcx := Aside.mk ((by first | exact Bcx.out | exact Bcx.out.old _ : Blk _ cx y.cells 27).below hb_); clear hcell; have hcell := cell_next hb_ CE.out; clear CE; have CE := Aside.mk hcell; obtain ⟨bz, hbz⟩ : ∃ bz, w_.heap.size = bz := ⟨_, rfl⟩; clear hb_) | (go_at_call 17; (with_reducible refine (htr _ (hl.next (by first | exact L.out | exact L.out.alloc L.out.size _))).mono ?_); rintro e w_ ⟨rfl, hb_⟩; replace L := Aside.mk ((by first | exact L.out | exact L.out.alloc L.out.size _ : Below w.heap.size w _).trans (hb_.mono (by first | exact L.out.size | (simp; have := L.out.size; omega)))); replace Bbx := Aside.mk ((by first | exact Bbx.out | exact Bbx.out.old _ : Blk _ bx x.cells 25).below hb_); replace Bcx := Aside.mk ((by first | exact Bcx.out | exact Bcx.out.old _ : Blk _ cx y.cells 27).below hb_); have Bbz := Aside.mk (blk_named hb_ bz hbz); clear hbz; clear hcell; have hcell := cell_next hb_ (by first | exact CE.out | exact cell_next (w := _) ((Below.refl _ _).alloc (Nat.le_refl _) _) CE.out); clear CE; have CE := Aside.mk hcell; obtain ⟨cz, hcz⟩ : ∃ cz, w_.heap.size = cz := ⟨_, rfl⟩; clear hb_) | (go_at_call 16; (with_reducible refine (htw _ (hl.next (by first | exact L.out | exact L.out.alloc L.out.size _))).mono ?_); rintro e w_ ⟨rfl, hb_⟩; replace L := Aside.mk ((by first | exact L.out | exact L.out.alloc L.out.size _ : Below w.heap.size w _).trans (hb_.mono (by first | exact L.out.size | (simp; have := L.out.size; omega)))); replace Bbx := Aside.mk ((by first | exact Bbx.out | exact Bbx.out.old _ : Blk _ bx x.cells 25).below hb_); replace Bcx := Aside.mk ((by first | exact Bcx.out | exact Bcx.out.old _ : Blk _ cx y.cells 27).below hb_); clear hcell; have hcell := cell_next hb_ (by first | exact CE.out | exact cell_next (w := _) ((Below.refl _ _).alloc (Nat.le_refl _) _) CE.out); clear CE; have CE := Aside.mk hcell; obtain ⟨bq, hbq⟩ : ∃ bq, w_.heap.size = bq := ⟨_, rfl⟩; clear hb_) | (go_at_call 17; (with_reducible refine (htu _ (hl.next (by first | exact L.out | exact L.out.alloc L.out.size _))).mono ?_); rintro e w_ ⟨rfl, hb_⟩; replace L := Aside.mk ((by first | exact L.out | exact L.out.alloc L.out.size _ : Below w.heap.size w _).trans (hb_.mono (by first | exact L.out.size | (simp; have := L.out.size; omega)))); replace Bbx := Aside.mk ((by first | exact Bbx.out | exact Bbx.out.old _ : Blk _ bx x.cells 25).below hb_); replace Bcx := Aside.mk ((by first | exact Bcx.out | exact Bcx.out.old _ : Blk _ cx y.cells 27).below hb_); clear hcell; have hcell := cell_next hb_ (by first | exact CE.out | exact cell_next (w := _) ((Below.refl _ _).alloc (Nat.le_refl _) _) CE.out); clear CE; have CE := Aside.mk hcell; obtain ⟨cq, hcq⟩ : ∃ cq, w_.heap.size = cq := ⟨_, rfl⟩; clear hb_) | ((with_reducible refine at_store (p := 12) rfl ?_); refine store_new rfl 25 _ _ _ n.cells (by rfl) bz hbz (by rfl) (by rfl) (by kernel_rfl) rfl (ml_one _) ?_) | ((with_reducible refine at_store (p := 14) rfl ?_); refine store_new rfl 27 _ _ _ n'.cells (by rfl) cz hcz (by rfl) (by rfl) (by kernel_rfl) rfl (rc_one _) ?_) | ((with_reducible refine at_store (p := 16) rfl ?_); refine store_new rfl 25 _ _ _ m2.cells (by rfl) bq hbq (by rfl) (by rfl) (by kernel_rfl) rfl (ml_one _) ?_) | ((with_reducible refine at_store (p := 18) rfl ?_); refine store_new rfl 27 _ _ _ r2.cells (by rfl) cq hcq (by rfl) (by rfl) (by kernel_rfl) rfl (rc_one _) ?_) | ((with_reducible refine at_dst (N := 117) rfl ?_); refine step_value_g (by kernel_rfl) (.int .i64 q) (rem_run k rl.length q hk hk2 hn0 hq hql (by omega) _ _ _ _ _ (by rfl) (by rfl) (by rfl)) ?_) | ((with_reducible refine at_dst (N := 131) rfl ?_); refine step_value_g (by kernel_rfl) (.int .i64 q) (rem_run k rl.length q hk hk2 hn0 hq hql (by omega) _ _ _ _ _ (by rfl) (by rfl) (by rfl)) ?_) | ((with_reducible refine at_dst (N := 119) rfl ?_); refine step_value_g (by kernel_rfl) (.string v) (load_run ⟨b_, o_ + q, none⟩ v _ (by first | exact CE.out | exact cell_next (w := _) ((Below.refl _ _).alloc (Nat.le_refl _) _) CE.out) _ _ _ (by rfl) (by rfl)) ?_) | ((with_reducible refine at_dst (N := 133) rfl ?_); refine step_value_g (by kernel_rfl) (.string v) (load_run ⟨b_, o_ + q, none⟩ v _ (by first | exact CE.out | exact cell_next (w := _) ((Below.refl _ _).alloc (Nat.le_refl _) _) CE.out) _ _ _ (by rfl) (by rfl)) ?_))
      all_goals
        go_ret
        exact ⟨rfl, by first | exact L.out | exact L.out.alloc L.out.size _⟩
end Go.Proofs.YtfffdbjfhdkheaaGreatDoor
