/-
  CommandBack: all ways joined; the row's form.
-/
import Derived.Test.YtllhbcpbihhdnaaGreatDoorQCmBk
import Derived.Test.YtllhbcpbihhdnaaGreatDoorQ6
set_option linter.unusedVariables false
set_option linter.unusedSimpArgs false
namespace Go.Proofs.YtllhbcpbihhdnaaGreatDoor
open Go.RowKit Go.Shelf Pm
set_option maxRecDepth 100000
set_option maxHeartbeats 8000000 in
theorem back_early (c : Cm.Cmd) (s : ByteArray) (hs : s.size ≤ 3000) (hsm : ∀ W, Calls Tryz.prog 8 #[.agg c.cells] W fun e w' => e = .returned (.bool false) ∧ Below W.heap.size W w') (bl : Int) (w : World) (hl : Lv w) : Calls Tryz.prog 3 #[.string s, .agg c.cells, .int .u8 bl] w fun e w' => e = .returned (.bool true) ∧ Below w.heap.size w w' := by
  have hs2 : decide ((3000 : Int) < (s.size : Int)) = false := decide_eq_false (by omega)
  obtain ⟨H, hH⟩ : ∃ H, w.heap.size = H := ⟨_, rfl⟩
  have M : Aside (Mine w [(H, c.cells, 31)] (w.alloc (.cells c.cells 31))) := ⟨Mine.new (Mine.start w) c.cells 31 H hH⟩
  go_enter Tryz.func3, Tryz.ntmps3
  rw [hH]
  go_wp2_with (first | (go_at_call 7; (with_reducible refine (awake_any _ (hl.next M.out.low)).mono ?_); rintro e w_ ⟨rfl, hb_⟩; replace M := Aside.mk (M.out.next hb_); clear hb_) | (go_at_call 8; (with_reducible refine (hsm _).mono ?_); rintro e w_ ⟨rfl, hb_⟩; replace M := Aside.mk (M.out.next hb_); clear hb_) | ((with_reducible refine at_dst (N := 24) rfl ?_); refine load_blk_g H 31 (by kernel_rfl) _ (by rfl) (by rfl) c.cells 31 _ (M.out.own (H, c.cells, 31) (by repeat (first | exact List.mem_cons_self .. | apply List.mem_cons_of_mem))).2 Tryz.underlying31 rfl (by kernel_rfl) ?_))
  go_ret
  exact ⟨by rfl, by have L := M.out.low; rw [hH] at L; exact L⟩
set_option maxHeartbeats 8000000 in
theorem back_long (c : Cm.Cmd) (s : ByteArray) (hs : 3000 < s.size) (hz : s.size ≤ 140737488351232) (bl : Int) (w : World) (hl : Lv w) : Calls Tryz.prog 3 #[.string s, .agg c.cells, .int .u8 bl] w fun e w' => e = .returned (.bool true) ∧ Below w.heap.size w w' := by
  have hs2 : decide ((3000 : Int) < (s.size : Int)) = true := decide_eq_true (by omega)
  obtain ⟨H, hH⟩ : ∃ H, w.heap.size = H := ⟨_, rfl⟩
  have M : Aside (Mine w [(H, c.cells, 31)] (w.alloc (.cells c.cells 31))) := ⟨Mine.new (Mine.start w) c.cells 31 H hH⟩
  go_enter Tryz.func3, Tryz.ntmps3
  rw [hH]
  go_wp2_with (first | (go_at_call 7; (with_reducible refine (awake_any _ (hl.next M.out.low)).mono ?_); rintro e w_ ⟨rfl, hb_⟩; replace M := Aside.mk (M.out.next hb_); clear hb_))
  go_ret
  exact ⟨by rfl, by have L := M.out.low; rw [hH] at L; exact L⟩
theorem i64_in {n : Int} (h : (Lit.int .i64 n).wf = true) : I64 n := by
  have h2 := h
  simp [Lit.wf, IntKind.min, IntKind.max, IntKind.signed, IntKind.bits] at h2
  unfold I64
  omega
theorem u8_in {n : Int} (h : (Lit.int .u8 n).wf = true) : ∃ b : Nat, n = b ∧ b < 256 := by
  have h2 := h
  simp [Lit.wf, IntKind.min, IntKind.max, IntKind.signed, IntKind.bits] at h2
  exact ⟨n.toNat, by omega, by omega⟩
/-- What is small is gone through. -/
theorem small_fits (c : Cm.Cmd) (hm : MlIn c.ml) (h : c.small = true) : Cm.Fits c ∧ c.verb.length + c.arg.length ≤ 2000 := by
  unfold Cm.Cmd.small at h
  rw [Bool.and_eq_true, Bool.and_eq_true] at h
  obtain ⟨k0, k1, k2⟩ := h
  have j0 := of_decide_eq_true k0
  have j1 := of_decide_eq_true k1
  have j2 := of_decide_eq_true k2
  obtain ⟨a1, a2, a3, a4, a5, a6, a7, a8, a9⟩ := hm
  exact ⟨⟨⟨i64_in a1, i64_in a2, i64_in a4, i64_in a5, by omega, by omega, by omega⟩, fun h => (right_zero _ h).1.env, by omega, by omega, by omega⟩, by omega⟩
theorem small_in (c : Cm.Cmd) (h1 : c.verb.length ≤ reachBytes) (h2 : c.arg.length ≤ reachBytes) (h3 : c.lo.length ≤ reachBytes) (h4 : c.dm.length ≤ reachBytes) (hm : MlIn c.ml) (hr : RcIn c.rc) (W : World) : Calls Tryz.prog 8 #[.agg c.cells] W fun e w' => e = .returned (.bool c.small) ∧ Below W.heap.size W w' := by
  obtain ⟨a1, a2, a3, a4, a5, a6, a7, a8, a9⟩ := hm
  obtain ⟨b1, b2, b3⟩ := hr
  have hb : reachBytes = 140737488351232 := by rfl
  exact small_cmd c (by omega) (by omega) (by omega) W
theorem back_row (W : World) (hl : Lv W) (s : ByteArray) (hz : s.size ≤ 140737488351232) (c : Cm.Cmd) (h1 : c.verb.length ≤ reachBytes) (h2 : c.arg.length ≤ reachBytes) (h3 : c.lo.length ≤ reachBytes) (h4 : c.dm.length ≤ reachBytes) (hm : MlIn c.ml) (hr : RcIn c.rc) (bl : Int) (hbl : (Lit.int .u8 bl).wf = true) :
    Calls Tryz.prog 3 #[.string s, .agg c.cells, .int .u8 bl] W fun e w' => e = .returned (.bool true) ∧ Below W.heap.size W w' := by
  by_cases hs : 3000 < s.size
  · exact back_long c s hs hz bl W hl
  have hsm := small_in c h1 h2 h3 h4 hm hr
  cases hsb : c.small with
  | false => rw [hsb] at hsm; exact back_early c s (by omega) hsm bl W hl
  | true =>
    rw [hsb] at hsm
    obtain ⟨b, rfl, hb⟩ := u8_in hbl
    obtain ⟨hf, hva⟩ := small_fits c hm hsb
    obtain ⟨x, hx⟩ : ∃ x, Cm.parse s.data.toList = x := ⟨_, rfl⟩
    obtain ⟨x, ex⟩ := x
    have hs0 : s.data.toList.length = s.size := by simp
    obtain ⟨p, hp⟩ : ∃ p, Cm.print c = p := ⟨_, rfl⟩
    obtain ⟨tc, ec⟩ := p
    by_cases hc : ec = 0
    · subst hc
      obtain ⟨q1, q2, q3⟩ := Cm.print_ok hp
      have qc : ∀ n, Cm.parse (tc ++ List.replicate n 32) = (c, 0) := fun n => by rw [Cm.parse_add, ← q2]; exact Cm.line_parse q1
      by_cases hx0 : ex = 0
      · subst hx0
        obtain ⟨l1, l2⟩ := Cm.parse_arg_len hx
        have fx := Cm.fits_line (Cm.parse_line hx) (by omega)
        rcases Cm.print_parsed hx with ⟨t, k1, k2, k3⟩ | k
        · exact back_ok_ok c hf hsm s (by omega) b hb x 0 hx rfl fx t k1 k2 k3 tc hp qc q3 W hl
        · exact back_long_ok c hf hsm s (by omega) b hb x 0 hx rfl fx k tc hp qc q3 W hl
      · exact back_err_ok c hf hsm s (by omega) b hb x ex hx hx0 tc hp qc q3 W hl
    · have htc := Cm.print_bad hp hc
      subst htc
      by_cases hx0 : ex = 0
      · subst hx0
        obtain ⟨l1, l2⟩ := Cm.parse_arg_len hx
        have fx := Cm.fits_line (Cm.parse_line hx) (by omega)
        rcases Cm.print_parsed hx with ⟨t, k1, k2, k3⟩ | k
        · exact back_ok_bad c hf hsm s (by omega) b hb x 0 hx rfl fx t k1 k2 k3 ec hp hc W hl
        · exact back_long_bad c hf hsm s (by omega) b hb x 0 hx rfl fx k ec hp hc W hl
      · exact back_err_bad c hf hsm s (by omega) b hb x ex hx hx0 ec hp hc W hl
end Go.Proofs.YtllhbcpbihhdnaaGreatDoor
