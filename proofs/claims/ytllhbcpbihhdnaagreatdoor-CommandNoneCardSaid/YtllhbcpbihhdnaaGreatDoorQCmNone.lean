/-
  CommandNone: its walk.
-/
import Derived.Test.YtllhbcpbihhdnaaGreatDoorQCmAw
set_option linter.unusedVariables false
set_option linter.unusedSimpArgs false
namespace Go.Proofs.YtllhbcpbihhdnaaGreatDoor
open Go.RowKit Go.Shelf Pm
set_option maxRecDepth 100000
theorem verb_at (k : Nat) (hk : k < 10) : ∃ v, v ∈ Cm.verbs ∧ Cm.verbVals[k]? = some (.string (Cm.tx v)) ∧ Cm.verbs.take (k + 1) = Cm.verbs.take k ++ [v] := by
  rcases (show k = 0 ∨ k = 1 ∨ k = 2 ∨ k = 3 ∨ k = 4 ∨ k = 5 ∨ k = 6 ∨ k = 7 ∨ k = 8 ∨ k = 9 by omega) with rfl | rfl | rfl | rfl | rfl | rfl | rfl | rfl | rfl | rfl
  · exact ⟨Cm.vHELO, by decide, rfl, rfl⟩
  · exact ⟨Cm.vEHLO, by decide, rfl, rfl⟩
  · exact ⟨Cm.vMAIL, by decide, rfl, rfl⟩
  · exact ⟨Cm.vRCPT, by decide, rfl, rfl⟩
  · exact ⟨Cm.vDATA, by decide, rfl, rfl⟩
  · exact ⟨Cm.vRSET, by decide, rfl, rfl⟩
  · exact ⟨Cm.vQUIT, by decide, rfl, rfl⟩
  · exact ⟨Cm.vNOOP, by decide, rfl, rfl⟩
  · exact ⟨Cm.vVRFY, by decide, rfl, rfl⟩
  · exact ⟨Cm.vHELP, by decide, rfl, rfl⟩
theorem known_step (V v : List UInt8) (k : Nat) (h : Cm.verbs.take (k + 1) = Cm.verbs.take k ++ [v]) : decide (V ∈ Cm.verbs.take (k + 1)) = (decide (V ∈ Cm.verbs.take k) || ((Cm.tx v).toList == (Cm.tx V).toList)) := by
  rw [h, Bool.eq_iff_iff, Bool.or_eq_true, decide_eq_true_iff, decide_eq_true_iff, Cm.tx_eqb, List.mem_append, List.mem_singleton]
  exact ⟨fun q => q.imp id Eq.symm, fun q => q.imp id Eq.symm⟩
set_option maxHeartbeats 4000000 in
theorem none_early (verb rest : ByteArray) (h : 200 < verb.size ∨ (verb.size ≤ 200 ∧ 1000 < rest.size)) (hz : verb.size ≤ 140737488351232) (hz2 : rest.size ≤ 140737488351232) (w : World) (hl : Lv w) : Calls Tryz.prog 6 #[.string verb, .string rest] w fun e w' => e = .returned (.bool true) ∧ Below w.heap.size w w' := by
  rcases h with h | ⟨h, h2⟩
  · have d1 : decide ((200 : Int) < (verb.size : Int)) = true := decide_eq_true (by omega)
    go_enter Tryz.func6, Tryz.ntmps6
    go_wp2_with (go_at_call 7; (with_reducible refine (awake_any _ hl).mono ?_); rintro e w_ ⟨rfl, hb_⟩; have M := Aside.mk ((Mine.start w).next hb_); clear hb_)
    go_ret
    exact ⟨rfl, M.out.low⟩
  · have d1 : decide ((200 : Int) < (verb.size : Int)) = false := decide_eq_false (by omega)
    have d2 : decide ((1000 : Int) < (rest.size : Int)) = true := decide_eq_true (by omega)
    go_enter Tryz.func6, Tryz.ntmps6
    go_wp2_with (go_at_call 7; (with_reducible refine (awake_any _ hl).mono ?_); rintro e w_ ⟨rfl, hb_⟩; have M := Aside.mk ((Mine.start w).next hb_); clear hb_)
    go_ret
    exact ⟨rfl, M.out.low⟩
set_option maxHeartbeats 16000000 in
theorem none_main (verb rest : ByteArray) (h1 : verb.size ≤ 200) (h2 : rest.size ≤ 1000) (w : World) (hl : Lv w) : Calls Tryz.prog 6 #[.string verb, .string rest] w fun e w' => e = .returned (.bool true) ∧ Below w.heap.size w w' := by
  have d1 : decide ((200 : Int) < (verb.size : Int)) = false := decide_eq_false (by omega)
  have d2 : decide ((1000 : Int) < (rest.size : Int)) = false := decide_eq_false (by omega)
  have o1 : ¬ 9223372036854775807 < verb.size + 1 := by omega
  have o2 : ¬ 9223372036854775807 < verb.size + 1 + rest.size := by omega
  have hsz : (verb ++ ⟨#[32]⟩ ++ rest).size ≤ 100000 := by simp only [ByteArray.size_append]; rw [show (⟨#[32]⟩ : ByteArray).size = 1 by rfl]; omega
  have hvb := fun W (hW : Lv W) => verb_any (verb ++ ⟨#[32]⟩ ++ rest) hsz W hW
  have hpl := fun W (hW : Lv W) => commandParse_any (verb ++ ⟨#[32]⟩ ++ rest) hsz W hW
  have HF : Aside (Cm.verb (verb ++ ⟨#[32]⟩ ++ rest).data.toList ∉ Cm.verbs → Cm.parse (verb ++ ⟨#[32]⟩ ++ rest).data.toList = (Cm.Cmd.zero, 10)) := ⟨Cm.none_known⟩
  obtain ⟨V, hV⟩ : ∃ V, Cm.verb (verb ++ ⟨#[32]⟩ ++ rest).data.toList = V := ⟨_, rfl⟩
  obtain ⟨p, hp⟩ : ∃ p, Cm.parse (verb ++ ⟨#[32]⟩ ++ rest).data.toList = p := ⟨_, rfl⟩
  rw [hV] at hvb HF
  rw [hp] at hpl HF
  obtain ⟨pc, pe⟩ := p
  dsimp only at hpl
  clear hV hp hsz
  go_enter Tryz.func6, Tryz.ntmps6
  go_wp2_with (first | (go_at_call 7; (with_reducible refine (awake_any _ hl).mono ?_); rintro e w_ ⟨rfl, hb_⟩; have M := Aside.mk ((Mine.start w).next hb_); clear hb_) | (go_at_call 16; (with_reducible refine (verbs_any _).mono ?_); rintro e w9 ⟨rfl, hw_⟩; subst hw_))
  obtain ⟨B, hB⟩ : ∃ b, w_.heap.size = b := ⟨_, rfl⟩
  have MB : Aside (Mine w [(B, Cm.verbVals, 9)] (w_.alloc (.cells Cm.verbVals 9))) := ⟨hB ▸ M.out.alloc Cm.verbVals 9⟩
  rw [hB]
  obtain ⟨W9, hW9⟩ : ∃ W, w_.alloc (.cells Cm.verbVals 9) = W := ⟨_, rfl⟩
  rw [hW9] at MB ⊢
  clear hW9 M hB
  go_loopw [5, 7] (fun kn i wr => ∃ k : Nat, k ≤ 10 ∧ i = .int .i64 k ∧ kn = .bool (decide (V ∈ Cm.verbs.take k)) ∧ Mine w [(B, Cm.verbVals, 9)] wr) (fun _ i _ => 10 - (intOf i).toNat)
  case atStart => exact ⟨0, by omega, rfl, rfl, MB.out⟩
  case round =>
    clear MB
    obtain ⟨k, hk, rfl, rfl, hM⟩ := hrel
    have M := Aside.mk hM
    clear hM
    by_cases hlt : k < 10
    · obtain ⟨v, hv, hvk, htk⟩ := verb_at k hlt
      have HK := Aside.mk (known_step V v k htk)
      have hvl : v.length = 4 := (Cm.verb_facts v hv).2.2.1
      have hts := Cm.tx_size v
      have HC := fun {W : World} (h : Mine w [(B, Cm.verbVals, 9)] W) => Mine.at h k _ hvk
      have hS1 : (Cm.tx v ++ ⟨#[88, 32]⟩ ++ rest).size ≤ 100000 := by simp only [ByteArray.size_append]; rw [show (⟨#[88, 32]⟩ : ByteArray).size = 2 by rfl]; omega
      have hS2 : (⟨#[32]⟩ ++ Cm.tx v ++ rest ++ ⟨#[120]⟩ : ByteArray).size ≤ 100000 := by simp only [ByteArray.size_append]; rw [show (⟨#[32]⟩ : ByteArray).size = 1 by rfl, show (⟨#[120]⟩ : ByteArray).size = 1 by rfl]; omega
      have hp1 := fun W (hW : Lv W) => commandParse_any (Cm.tx v ++ ⟨#[88, 32]⟩ ++ rest) hS1 W hW
      rw [show (Cm.tx v ++ ⟨#[88, 32]⟩ ++ rest).data.toList = v ++ 88 :: 32 :: rest.data.toList by simp [Cm.tx], Cm.none_more hv] at hp1
      have hp2 := fun W (hW : Lv W) => commandParse_any (⟨#[32]⟩ ++ Cm.tx v ++ rest ++ ⟨#[120]⟩) hS2 W hW
      rw [show (⟨#[32]⟩ ++ Cm.tx v ++ rest ++ ⟨#[120]⟩ : ByteArray).data.toList = 32 :: (v ++ rest.data.toList ++ [120]) by simp [Cm.tx], Cm.none_blank] at hp2
      dsimp only at hp1 hp2
      have o3 : ¬ 9223372036854775807 < (Cm.tx v).size + 2 := by omega
      have o4 : ¬ 9223372036854775807 < (Cm.tx v).size + 2 + rest.size := by omega
      have o5 : ¬ 9223372036854775807 < 1 + (Cm.tx v).size := by omega
      have o6 : ¬ 9223372036854775807 < 1 + (Cm.tx v).size + rest.size := by omega
      have o7 : ¬ 9223372036854775807 < 1 + (Cm.tx v).size + rest.size + 1 := by omega
      have d3 : decide ((k : Int) < 10) = true := decide_eq_true (by omega)
      have b0 : ¬ (k : Int) < 0 := by omega
      have b1 : (k : Int) < 10 := by omega
      have b2 : (k : Int).toNat = k := by omega
      obtain ⟨q, hq⟩ : ∃ q, ((Cm.tx v).toList == (Cm.tx V).toList) = q := ⟨_, rfl⟩
      rw [hq] at HK
      obtain ⟨kn, hkn⟩ : ∃ b, decide (V ∈ Cm.verbs.take k) = b := ⟨_, rfl⟩
      rw [hkn] at HK ⊢
      clear hS1 hS2 hvl hts hvk htk hkn hv
      generalize Cm.tx v = vt at HC hp1 hp2 o3 o4 o5 o6 o7 hq
      go_upto_region 10 with fail
      cases kn with
      | true =>
        refine region_class (C := (fun w' => Mine w [(B, Cm.verbVals, 9)] w')) (by kernel_rfl) (by kernel_rfl) (M.out.drewN 1) ?_
        refine q_run ?_ ?_ ?_ ?_
        · kernel_rfl
        rotate_left
        · intro w_ hw_
          have c0 := HC hw_
          have cl := Mine.lt hw_
          first | (go_simp; done) | (go_simp; with_reducible rfl) | (go_simp; rw [if_neg (by first | omega | (simp; omega))])
        try simp only [Act.put, List.setIfInBounds_toArray, List.set_cons_zero, List.set_cons_succ]
        try simp only [hq]
        refine q_run ?_ ?_ ?_ ?_
        · kernel_rfl
        rotate_left
        · intro w_ hw_
          have c0 := HC hw_
          have cl := Mine.lt hw_
          first | (go_simp; done) | (go_simp; with_reducible rfl) | (go_simp; rw [if_neg (by first | omega | (simp; omega))])
        try simp only [Act.put, List.setIfInBounds_toArray, List.set_cons_zero, List.set_cons_succ]
        try simp only [hq]
        first
         | (refine q_skip ?_ ?_
            · rfl)
         | (refine q_run ?_ ?_ ?_ ?_
            · kernel_rfl
            rotate_left
            · intro w_ hw_
              have c0 := HC hw_
              have cl := Mine.lt hw_
              first | (go_simp; done) | (go_simp; with_reducible rfl) | (go_simp; rw [if_neg (by first | omega | (simp; omega))]))
        try simp only [Act.put, List.setIfInBounds_toArray, List.set_cons_zero, List.set_cons_succ]
        try simp only [hq]
        first
         | (refine q_skip ?_ ?_
            · rfl)
         | (refine q_run ?_ ?_ ?_ ?_
            · kernel_rfl
            rotate_left
            · intro w_ hw_
              have c0 := HC hw_
              have cl := Mine.lt hw_
              first | (go_simp; done) | (go_simp; with_reducible rfl) | (go_simp; rw [if_neg (by first | omega | (simp; omega))]))
        try simp only [Act.put, List.setIfInBounds_toArray, List.set_cons_zero, List.set_cons_succ]
        try simp only [hq]
        first
         | (refine q_skip ?_ ?_
            · rfl)
         | (refine q_run ?_ ?_ ?_ ?_
            · kernel_rfl
            rotate_left
            · intro w_ hw_
              have c0 := HC hw_
              have cl := Mine.lt hw_
              first | (go_simp; done) | (go_simp; with_reducible rfl) | (go_simp; rw [if_neg (by first | omega | (simp; omega))]))
        try simp only [Act.put, List.setIfInBounds_toArray, List.set_cons_zero, List.set_cons_succ]
        try simp only [hq]
        first
         | (refine q_skip ?_ ?_
            · rfl)
         | (refine q_run ?_ ?_ ?_ ?_
            · kernel_rfl
            rotate_left
            · intro w_ hw_
              have c0 := HC hw_
              have cl := Mine.lt hw_
              first | (go_simp; done) | (go_simp; with_reducible rfl) | (go_simp; rw [if_neg (by first | omega | (simp; omega))]))
        try simp only [Act.put, List.setIfInBounds_toArray, List.set_cons_zero, List.set_cons_succ]
        try simp only [hq]
        first
         | (refine q_skip ?_ ?_
            · rfl)
         | (refine q_run ?_ ?_ ?_ ?_
            · kernel_rfl
            rotate_left
            · intro w_ hw_
              have c0 := HC hw_
              have cl := Mine.lt hw_
              first | (go_simp; done) | (go_simp; with_reducible rfl) | (go_simp; rw [if_neg (by first | omega | (simp; omega))]))
        try simp only [Act.put, List.setIfInBounds_toArray, List.set_cons_zero, List.set_cons_succ]
        try simp only [hq]
        first
         | (refine q_skip ?_ ?_
            · rfl)
         | (refine q_run ?_ ?_ ?_ ?_
            · kernel_rfl
            rotate_left
            · intro w_ hw_
              have c0 := HC hw_
              have cl := Mine.lt hw_
              first | (go_simp; done) | (go_simp; with_reducible rfl) | (go_simp; rw [if_neg (by first | omega | (simp; omega))]))
        try simp only [Act.put, List.setIfInBounds_toArray, List.set_cons_zero, List.set_cons_succ]
        try simp only [hq]
        first
         | (refine q_skip ?_ ?_
            · rfl)
         | (refine q_run ?_ ?_ ?_ ?_
            · kernel_rfl
            rotate_left
            · intro w_ hw_
              have c0 := HC hw_
              have cl := Mine.lt hw_
              first | (go_simp; done) | (go_simp; with_reducible rfl) | (go_simp; rw [if_neg (by first | omega | (simp; omega))]))
        try simp only [Act.put, List.setIfInBounds_toArray, List.set_cons_zero, List.set_cons_succ]
        try simp only [hq]
        first
         | (refine q_skip ?_ ?_
            · rfl)
         | (refine q_run ?_ ?_ ?_ ?_
            · kernel_rfl
            rotate_left
            · intro w_ hw_
              have c0 := HC hw_
              have cl := Mine.lt hw_
              first | (go_simp; done) | (go_simp; with_reducible rfl) | (go_simp; rw [if_neg (by first | omega | (simp; omega))]))
        try simp only [Act.put, List.setIfInBounds_toArray, List.set_cons_zero, List.set_cons_succ]
        try simp only [hq]
        first
         | (refine q_skip ?_ ?_
            · rfl)
         | (refine q_call ?_ (.string (Cm.tx V)) ?_ ?_ ?_ ?_ ?_
            · kernel_rfl
            rotate_left 2
            · intro w_ hw_
              go_simp
              refine ⟨?_, ?_⟩ <;> with_reducible rfl
            · intro w_ hw_
              have c0 := HC hw_
              have cl := Mine.lt hw_
              exact (hvb _ (hl.next hw_.low)).mono fun _ _ ⟨h1_, h2_⟩ => ⟨h1_, hw_.next h2_⟩)
        try simp only [Act.put, List.setIfInBounds_toArray, List.set_cons_zero, List.set_cons_succ]
        try simp only [hq]
        first
         | (refine q_skip ?_ ?_
            · rfl)
         | (refine q_run ?_ ?_ ?_ ?_
            · kernel_rfl
            rotate_left
            · intro w_ hw_
              have c0 := HC hw_
              have cl := Mine.lt hw_
              first | (go_simp; done) | (go_simp; with_reducible rfl) | (go_simp; rw [if_neg (by first | omega | (simp; omega))]))
        try simp only [Act.put, List.setIfInBounds_toArray, List.set_cons_zero, List.set_cons_succ]
        try simp only [hq]
        refine q_run ?_ ?_ ?_ ?_
        · kernel_rfl
        rotate_left
        · intro w_ hw_
          have c0 := HC hw_
          have cl := Mine.lt hw_
          first | (go_simp; done) | (go_simp; with_reducible rfl) | (go_simp; rw [if_neg (by first | omega | (simp; omega))])
        try simp only [Act.put, List.setIfInBounds_toArray, List.set_cons_zero, List.set_cons_succ]
        try simp only [hq]
        refine q_run ?_ ?_ ?_ ?_
        · kernel_rfl
        rotate_left
        · intro w_ hw_
          have c0 := HC hw_
          have cl := Mine.lt hw_
          first | (go_simp; done) | (go_simp; with_reducible rfl) | (go_simp; rw [if_neg (by first | omega | (simp; omega))])
        try simp only [Act.put, List.setIfInBounds_toArray, List.set_cons_zero, List.set_cons_succ]
        try simp only [hq]
        refine q_nil ?_
        intro W_ hC_
        clear M
        have M := Aside.mk hC_
        clear hC_
        have z0 := HC M.out
        have zl := Mine.lt M.out
        go_wp2_with (first | (go_at_call 9; (with_reducible refine (hp1 _ (hl.next M.out.low)).mono ?_); rintro e w_ ⟨rfl, hb_⟩; replace M := Aside.mk (M.out.next hb_); clear hb_; clear z0; have z0 := HC M.out; obtain ⟨ba, hba⟩ : ∃ b, w_.heap.size = b := ⟨_, rfl⟩) | ((with_reducible refine at_store (p := 8) rfl ?_); refine store_new rfl 31 _ _ Cm.Cmd.zero.cells Cm.Cmd.zero.cells (by rfl) ba hba (by rfl) (by rfl) (by kernel_rfl) (by rfl) (cmd_one _) ?_; replace M := Aside.mk (M.out.next ((Below.refl _ _).alloc (Nat.le_refl _) (.cells Cm.Cmd.zero.cells 31))); clear z0; have z0 := HC M.out) | (go_at_call 9; (with_reducible refine (hp2 _ (hl.next M.out.low)).mono ?_); rintro e w_ ⟨rfl, hb_⟩; replace M := Aside.mk (M.out.next hb_); clear hb_; clear z0; have z0 := HC M.out; obtain ⟨bb, hbb⟩ : ∃ b, w_.heap.size = b := ⟨_, rfl⟩) | ((with_reducible refine at_store (p := 10) rfl ?_); refine store_new rfl 31 _ _ Cm.Cmd.zero.cells Cm.Cmd.zero.cells (by rfl) bb hbb (by rfl) (by rfl) (by kernel_rfl) (by rfl) (cmd_one _) ?_; replace M := Aside.mk (M.out.next ((Below.refl _ _).alloc (Nat.le_refl _) (.cells Cm.Cmd.zero.cells 31))); clear z0; have z0 := HC M.out))
        go_roundw
        case rel => exact ⟨k + 1, by omega, by go_num, by rw [HK.out]; rfl, M.out⟩
        case measure => first | (simp [intOf]; done) | (simp [intOf]; omega)
      | false =>
        refine region_class (C := (fun w' => Mine w [(B, Cm.verbVals, 9)] w')) (by kernel_rfl) (by kernel_rfl) (M.out.drewN 1) ?_
        refine q_run ?_ ?_ ?_ ?_
        · kernel_rfl
        rotate_left
        · intro w_ hw_
          have c0 := HC hw_
          have cl := Mine.lt hw_
          first | (go_simp; done) | (go_simp; with_reducible rfl) | (go_simp; rw [if_neg (by first | omega | (simp; omega))])
        try simp only [Act.put, List.setIfInBounds_toArray, List.set_cons_zero, List.set_cons_succ]
        try simp only [hq]
        refine q_run ?_ ?_ ?_ ?_
        · kernel_rfl
        rotate_left
        · intro w_ hw_
          have c0 := HC hw_
          have cl := Mine.lt hw_
          first | (go_simp; done) | (go_simp; with_reducible rfl) | (go_simp; rw [if_neg (by first | omega | (simp; omega))])
        try simp only [Act.put, List.setIfInBounds_toArray, List.set_cons_zero, List.set_cons_succ]
        try simp only [hq]
        first
         | (refine q_skip ?_ ?_
            · rfl)
         | (refine q_run ?_ ?_ ?_ ?_
            · kernel_rfl
            rotate_left
            · intro w_ hw_
              have c0 := HC hw_
              have cl := Mine.lt hw_
              first | (go_simp; done) | (go_simp; with_reducible rfl) | (go_simp; rw [if_neg (by first | omega | (simp; omega))]))
        try simp only [Act.put, List.setIfInBounds_toArray, List.set_cons_zero, List.set_cons_succ]
        try simp only [hq]
        first
         | (refine q_skip ?_ ?_
            · rfl)
         | (refine q_run ?_ ?_ ?_ ?_
            · kernel_rfl
            rotate_left
            · intro w_ hw_
              have c0 := HC hw_
              have cl := Mine.lt hw_
              first | (go_simp; done) | (go_simp; with_reducible rfl) | (go_simp; rw [if_neg (by first | omega | (simp; omega))]))
        try simp only [Act.put, List.setIfInBounds_toArray, List.set_cons_zero, List.set_cons_succ]
        try simp only [hq]
        first
         | (refine q_skip ?_ ?_
            · rfl)
         | (refine q_run ?_ ?_ ?_ ?_
            · kernel_rfl
            rotate_left
            · intro w_ hw_
              have c0 := HC hw_
              have cl := Mine.lt hw_
              first | (go_simp; done) | (go_simp; with_reducible rfl) | (go_simp; rw [if_neg (by first | omega | (simp; omega))]))
        try simp only [Act.put, List.setIfInBounds_toArray, List.set_cons_zero, List.set_cons_succ]
        try simp only [hq]
        first
         | (refine q_skip ?_ ?_
            · rfl)
         | (refine q_run ?_ ?_ ?_ ?_
            · kernel_rfl
            rotate_left
            · intro w_ hw_
              have c0 := HC hw_
              have cl := Mine.lt hw_
              first | (go_simp; done) | (go_simp; with_reducible rfl) | (go_simp; rw [if_neg (by first | omega | (simp; omega))]))
        try simp only [Act.put, List.setIfInBounds_toArray, List.set_cons_zero, List.set_cons_succ]
        try simp only [hq]
        first
         | (refine q_skip ?_ ?_
            · rfl)
         | (refine q_run ?_ ?_ ?_ ?_
            · kernel_rfl
            rotate_left
            · intro w_ hw_
              have c0 := HC hw_
              have cl := Mine.lt hw_
              first | (go_simp; done) | (go_simp; with_reducible rfl) | (go_simp; rw [if_neg (by first | omega | (simp; omega))]))
        try simp only [Act.put, List.setIfInBounds_toArray, List.set_cons_zero, List.set_cons_succ]
        try simp only [hq]
        first
         | (refine q_skip ?_ ?_
            · rfl)
         | (refine q_run ?_ ?_ ?_ ?_
            · kernel_rfl
            rotate_left
            · intro w_ hw_
              have c0 := HC hw_
              have cl := Mine.lt hw_
              first | (go_simp; done) | (go_simp; with_reducible rfl) | (go_simp; rw [if_neg (by first | omega | (simp; omega))]))
        try simp only [Act.put, List.setIfInBounds_toArray, List.set_cons_zero, List.set_cons_succ]
        try simp only [hq]
        first
         | (refine q_skip ?_ ?_
            · rfl)
         | (refine q_run ?_ ?_ ?_ ?_
            · kernel_rfl
            rotate_left
            · intro w_ hw_
              have c0 := HC hw_
              have cl := Mine.lt hw_
              first | (go_simp; done) | (go_simp; with_reducible rfl) | (go_simp; rw [if_neg (by first | omega | (simp; omega))]))
        try simp only [Act.put, List.setIfInBounds_toArray, List.set_cons_zero, List.set_cons_succ]
        try simp only [hq]
        first
         | (refine q_skip ?_ ?_
            · rfl)
         | (refine q_run ?_ ?_ ?_ ?_
            · kernel_rfl
            rotate_left
            · intro w_ hw_
              have c0 := HC hw_
              have cl := Mine.lt hw_
              first | (go_simp; done) | (go_simp; with_reducible rfl) | (go_simp; rw [if_neg (by first | omega | (simp; omega))]))
        try simp only [Act.put, List.setIfInBounds_toArray, List.set_cons_zero, List.set_cons_succ]
        try simp only [hq]
        first
         | (refine q_skip ?_ ?_
            · rfl)
         | (refine q_call ?_ (.string (Cm.tx V)) ?_ ?_ ?_ ?_ ?_
            · kernel_rfl
            rotate_left 2
            · intro w_ hw_
              go_simp
              refine ⟨?_, ?_⟩ <;> with_reducible rfl
            · intro w_ hw_
              have c0 := HC hw_
              have cl := Mine.lt hw_
              exact (hvb _ (hl.next hw_.low)).mono fun _ _ ⟨h1_, h2_⟩ => ⟨h1_, hw_.next h2_⟩)
        try simp only [Act.put, List.setIfInBounds_toArray, List.set_cons_zero, List.set_cons_succ]
        try simp only [hq]
        first
         | (refine q_skip ?_ ?_
            · rfl)
         | (refine q_run ?_ ?_ ?_ ?_
            · kernel_rfl
            rotate_left
            · intro w_ hw_
              have c0 := HC hw_
              have cl := Mine.lt hw_
              first | (go_simp; done) | (go_simp; with_reducible rfl) | (go_simp; rw [if_neg (by first | omega | (simp; omega))]))
        try simp only [Act.put, List.setIfInBounds_toArray, List.set_cons_zero, List.set_cons_succ]
        try simp only [hq]
        refine q_run ?_ ?_ ?_ ?_
        · kernel_rfl
        rotate_left
        · intro w_ hw_
          have c0 := HC hw_
          have cl := Mine.lt hw_
          first | (go_simp; done) | (go_simp; with_reducible rfl) | (go_simp; rw [if_neg (by first | omega | (simp; omega))])
        try simp only [Act.put, List.setIfInBounds_toArray, List.set_cons_zero, List.set_cons_succ]
        try simp only [hq]
        refine q_run ?_ ?_ ?_ ?_
        · kernel_rfl
        rotate_left
        · intro w_ hw_
          have c0 := HC hw_
          have cl := Mine.lt hw_
          first | (go_simp; done) | (go_simp; with_reducible rfl) | (go_simp; rw [if_neg (by first | omega | (simp; omega))])
        try simp only [Act.put, List.setIfInBounds_toArray, List.set_cons_zero, List.set_cons_succ]
        try simp only [hq]
        refine q_nil ?_
        intro W_ hC_
        clear M
        have M := Aside.mk hC_
        clear hC_
        have z0 := HC M.out
        have zl := Mine.lt M.out
        go_wp2_with (first | (go_at_call 9; (with_reducible refine (hp1 _ (hl.next M.out.low)).mono ?_); rintro e w_ ⟨rfl, hb_⟩; replace M := Aside.mk (M.out.next hb_); clear hb_; clear z0; have z0 := HC M.out; obtain ⟨ba, hba⟩ : ∃ b, w_.heap.size = b := ⟨_, rfl⟩) | ((with_reducible refine at_store (p := 8) rfl ?_); refine store_new rfl 31 _ _ Cm.Cmd.zero.cells Cm.Cmd.zero.cells (by rfl) ba hba (by rfl) (by rfl) (by kernel_rfl) (by rfl) (cmd_one _) ?_; replace M := Aside.mk (M.out.next ((Below.refl _ _).alloc (Nat.le_refl _) (.cells Cm.Cmd.zero.cells 31))); clear z0; have z0 := HC M.out) | (go_at_call 9; (with_reducible refine (hp2 _ (hl.next M.out.low)).mono ?_); rintro e w_ ⟨rfl, hb_⟩; replace M := Aside.mk (M.out.next hb_); clear hb_; clear z0; have z0 := HC M.out; obtain ⟨bb, hbb⟩ : ∃ b, w_.heap.size = b := ⟨_, rfl⟩) | ((with_reducible refine at_store (p := 10) rfl ?_); refine store_new rfl 31 _ _ Cm.Cmd.zero.cells Cm.Cmd.zero.cells (by rfl) bb hbb (by rfl) (by rfl) (by kernel_rfl) (by rfl) (cmd_one _) ?_; replace M := Aside.mk (M.out.next ((Below.refl _ _).alloc (Nat.le_refl _) (.cells Cm.Cmd.zero.cells 31))); clear z0; have z0 := HC M.out))
        go_roundw
        case rel => exact ⟨k + 1, by omega, by go_num, by rw [HK.out]; rfl, M.out⟩
        case measure => first | (simp [intOf]; done) | (simp [intOf]; omega)
    · have hke : k = 10 := by omega
      subst hke
      have d3 : decide ((10 : Int) < 10) = false := by decide
      rw [show Cm.verbs.take 10 = Cm.verbs from rfl]
      by_cases hin : V ∈ Cm.verbs
      · rw [decide_eq_true hin]
        clear HF
        go_wp2_with (first | (go_at_call 9; (with_reducible refine (hpl _ (hl.next M.out.low)).mono ?_); rintro e w_ ⟨rfl, hb_⟩; replace M := Aside.mk (M.out.next hb_); clear hb_; obtain ⟨bc, hbc⟩ : ∃ b, w_.heap.size = b := ⟨_, rfl⟩) | ((with_reducible refine at_store (p := 12) rfl ?_); refine store_new rfl 31 _ _ Cm.Cmd.zero.cells pc.cells (by rfl) bc hbc (by rfl) (by rfl) (by kernel_rfl) (by rfl) (cmd_one _) ?_; replace M := Aside.mk (M.out.next ((Below.refl _ _).alloc (Nat.le_refl _) (.cells pc.cells 31)))))
        go_ret
        exact ⟨rfl, M.out.low⟩
      · rw [decide_eq_false hin]
        have h9 := HF.out hin
        simp only [Prod.mk.injEq] at h9
        obtain ⟨h91, rfl⟩ := h9
        clear HF hin h91
        go_wp2_with (first | (go_at_call 9; (with_reducible refine (hpl _ (hl.next M.out.low)).mono ?_); rintro e w_ ⟨rfl, hb_⟩; replace M := Aside.mk (M.out.next hb_); clear hb_; obtain ⟨bc, hbc⟩ : ∃ b, w_.heap.size = b := ⟨_, rfl⟩) | ((with_reducible refine at_store (p := 12) rfl ?_); refine store_new rfl 31 _ _ Cm.Cmd.zero.cells pc.cells (by rfl) bc hbc (by rfl) (by rfl) (by kernel_rfl) (by rfl) (cmd_one _) ?_; replace M := Aside.mk (M.out.next ((Below.refl _ _).alloc (Nat.le_refl _) (.cells pc.cells 31)))))
        go_ret
        exact ⟨rfl, M.out.low⟩
theorem none_row (W : World) (hl : Lv W) (verb : ByteArray) (hz : verb.size ≤ 140737488351232) (rest : ByteArray) (hz2 : rest.size ≤ 140737488351232) : Calls Tryz.prog 6 #[.string verb, .string rest] W fun e w' => e = .returned (.bool true) ∧ Below W.heap.size W w' := by
  by_cases h1 : verb.size ≤ 200
  · by_cases h2 : rest.size ≤ 1000
    · exact none_main verb rest h1 h2 W hl
    · exact none_early verb rest (.inr ⟨h1, by omega⟩) hz hz2 W hl
  · exact none_early verb rest (.inl (by omega)) hz hz2 W hl
end Go.Proofs.YtllhbcpbihhdnaaGreatDoor
