/-
  Walks of the package reply: Right.
-/
import Derived.Test.YtfeedokfcebjjaaDoorRpFit
import Derived.Test.YtfeedokfcebjjaaDoorRpShown
import Derived.Test.YtfeedokfcebjjaaDoorRpEnh
import Derived.Test.YtfeedokfcebjjaaDoorStrs
set_option linter.unusedVariables false
set_option linter.unusedSimpArgs false
namespace Go.Proofs.YtfeedokfcebjjaaDoor
open Go.RowKit
set_option maxRecDepth 100000
attribute [local go_sem] equal3
set_option maxHeartbeats 4000000 in
theorem right_range (code a b c : Int) (A : Option Addr) (cp : Nat) (t : List ByteArray) (w : World) (h : Rp.cls code = 0 ∨ Rp.fits code a b c = false) :
    Calls Tryd.prog 17 #[.agg #[.int .i64 code, .int .i64 a, .int .i64 b, .int .i64 c, .slice A t.length cp]] w fun e w' => e = .returned (.int .i64 1) ∧ Below w.heap.size w w' := by
  have M : Aside (Mine w [(w.heap.size, #[.int .i64 code, .int .i64 a, .int .i64 b, .int .i64 c, .slice A t.length cp], 25)] (w.alloc (.cells #[.int .i64 code, .int .i64 a, .int .i64 b, .int .i64 c, .slice A t.length cp] 25))) := ⟨(Mine.start w).alloc _ _⟩
  by_cases h0 : Rp.cls code = 0
  · have e0 : ((Rp.cls code : Int) == 0) = true := by simpa using h0
    go_enter Tryd.func17, Tryd.ntmps17
    go_wp2_with (first | (go_at_call 19; (with_reducible refine (class_any _ _).mono ?_); rintro e w' ⟨rfl, rfl⟩) | (go_at_call 36; (with_reducible refine (fits_any _ _ _ _ _).mono ?_); rintro e w1 ⟨rfl, hb⟩; replace M := Aside.mk (M.out.next hb); clear hb; (try clear z0); (try clear z1); (try clear z2); (try clear z3); (try clear z4); (try clear zl); have z0 := Mine.at M.out 0 _ rfl; have z1 := Mine.at M.out 1 _ rfl; have z2 := Mine.at M.out 2 _ rfl; have z3 := Mine.at M.out 3 _ rfl; have z4 := Mine.at M.out 4 _ rfl; have zl := Mine.lt M.out))
    go_ret
    exact ⟨rfl, M.out.low⟩
  · have hf : Rp.fits code a b c = false := h.resolve_left h0
    have e0 : ((Rp.cls code : Int) == 0) = false := by simpa using h0
    go_enter Tryd.func17, Tryd.ntmps17
    go_wp2_with (first | (go_at_call 19; (with_reducible refine (class_any _ _).mono ?_); rintro e w' ⟨rfl, rfl⟩) | (go_at_call 36; (with_reducible refine (fits_any _ _ _ _ _).mono ?_); rintro e w1 ⟨rfl, hb⟩; replace M := Aside.mk (M.out.next hb); clear hb; (try clear z0); (try clear z1); (try clear z2); (try clear z3); (try clear z4); (try clear zl); have z0 := Mine.at M.out 0 _ rfl; have z1 := Mine.at M.out 1 _ rfl; have z2 := Mine.at M.out 2 _ rfl; have z3 := Mine.at M.out 3 _ rfl; have z4 := Mine.at M.out 4 _ rfl; have zl := Mine.lt M.out))
    go_ret
    exact ⟨rfl, M.out.low⟩
set_option maxHeartbeats 4000000 in
theorem right_fine (code a b c : Int) (A : Option Addr) (cp : Nat) (t : List ByteArray) (w : World) (hE : Env w) (h0 : Rp.cls code ≠ 0) (hf : Rp.fits code a b c = true) (hS : Strs w A t)
    (hs : ∀ s ∈ t, s.size ≤ 140737488351232) (ht : t.length ≤ 140737488351232) (hn : 1 ≤ t.length) (a0 : -9223372036854775808 ≤ a) (a1 : a ≤ 9223372036854775807) (b0 : -9223372036854775808 ≤ b) (b1 : b ≤ 9223372036854775807) (c0 : -9223372036854775808 ≤ c) (c1 : c ≤ 9223372036854775807) :
    Calls Tryd.prog 17 #[.agg #[.int .i64 code, .int .i64 a, .int .i64 b, .int .i64 c, .slice A t.length cp]] w fun e w' => e = .returned (.int .i64 (Rp.rest a b c t)) ∧ Below w.heap.size w w' := by
  have M : Aside (Mine w [(w.heap.size, #[.int .i64 code, .int .i64 a, .int .i64 b, .int .i64 c, .slice A t.length cp], 25)] (w.alloc (.cells #[.int .i64 code, .int .i64 a, .int .i64 b, .int .i64 c, .slice A t.length cp] 25))) := ⟨(Mine.start w).alloc _ _⟩
  have e0 : ((Rp.cls code : Int) == 0) = false := by simpa using h0
  clear h0
  have hS' := Aside.mk hS
  have hs' := Aside.mk hs
  clear hS hs
  have hlen : (Rp.enh a b c).length ≤ 66 := by
    have la := Lib.itoa_length_le a a0 a1
    have lb := Lib.itoa_length_le b b0 b1
    have lc := Lib.itoa_length_le c c0 c1
    unfold Rp.enh; split <;> simp <;> omega
  go_enter Tryd.func17, Tryd.ntmps17
  go_wp2_with (first | (go_at_call 19; (with_reducible refine (class_any _ _).mono ?_); rintro e w' ⟨rfl, rfl⟩) | (go_at_call 36; (with_reducible refine (fits_any _ _ _ _ _).mono ?_); rintro e w1 ⟨rfl, hb⟩; replace M := Aside.mk (M.out.next hb); clear hb; (try clear z0); (try clear z1); (try clear z2); (try clear z3); (try clear z4); (try clear zl); have z0 := Mine.at M.out 0 _ rfl; have z1 := Mine.at M.out 1 _ rfl; have z2 := Mine.at M.out 2 _ rfl; have z3 := Mine.at M.out 3 _ rfl; have z4 := Mine.at M.out 4 _ rfl; have zl := Mine.lt M.out))
  all_goals
    go_loopw [3, 31] (fun L i wr => ∃ (k : Nat) (lb : Bool), k ≤ t.length ∧ i = .int .i64 k ∧ L = .bool lb ∧ Aside (lb = (decide (t.length < 1 ∨ 32 < t.length) || (t.take k).any (Rp.big a b c)) ∧ (t.take k).all (fun s => Rp.shown s.data.toList) = true ∧ Mine w [(w.heap.size, #[.int .i64 code, .int .i64 a, .int .i64 b, .int .i64 c, .slice A t.length cp], 25)] wr)) (fun _ i _ => t.length - (intOf i).toNat)
    case atStart =>
      refine ⟨0, _, by omega, rfl, rfl, ⟨?_, by simp, M.out⟩⟩
      simp only [List.take_zero, List.any_nil, Bool.or_false, Bool.decide_or]
      by_cases q1 : t.length < 1 <;> by_cases q2 : 32 < t.length <;> simp [q1, q2] <;> omega
    case round =>
      clear M
      (try clear z0); (try clear z1); (try clear z2); (try clear z3); (try clear z4); (try clear zl)
      obtain ⟨k, lb, hk, rfl, rfl, HR⟩ := hrel
      have M := Aside.mk HR.out.2.2
      have z0 := Mine.at M.out 0 _ rfl; have z1 := Mine.at M.out 1 _ rfl; have z2 := Mine.at M.out 2 _ rfl; have z3 := Mine.at M.out 3 _ rfl; have z4 := Mine.at M.out 4 _ rfl; have zl := Mine.lt M.out
      by_cases hlt : k < t.length
      · have HT := Lib.hid (List.take_succ_eq_append_getElem (l := t) (i := k) hlt)
        obtain ⟨bb, oo, rfl, hbl, hcell⟩ := (hS'.out.next M.out.low).at k hlt
        have hsz := hs'.out t[k] (List.getElem_mem _)
        have hmem := Aside.mk (List.getElem_mem hlt)
        generalize t[k] = s at hcell HT hsz hmem
        have hsh := fun W => shown_any s W hsz
        by_cases hv : Rp.shown s.data.toList = true
        · rw [hv] at hsh
          have HV := Lib.hid hv
          clear hv
          cases lb with
          | true =>
            go_wp2_with ((go_at_call 26; (with_reducible refine (hsh _).mono ?_); rintro e w1 ⟨rfl, hb⟩; replace M := Aside.mk (M.out.next hb); clear hb; (try clear z0); (try clear z1); (try clear z2); (try clear z3); (try clear z4); (try clear zl); have z0 := Mine.at M.out 0 _ rfl; have z1 := Mine.at M.out 1 _ rfl; have z2 := Mine.at M.out 2 _ rfl; have z3 := Mine.at M.out 3 _ rfl; have z4 := Mine.at M.out 4 _ rfl; have zl := Mine.lt M.out))
            go_roundw
            case rel => exact ⟨k + 1, true, by omega, by go_num, rfl, ⟨by rw [HT.out, List.any_append, ← Bool.or_assoc, ← HR.out.1]; rfl, by rw [HT.out, List.all_append, HR.out.2.1]; simp [HV.out], M.out⟩⟩
            case measure => simp [intOf]; omega
          | false =>
            have henh := fun W hW => enh_any a b c W hW a0 a1 b0 b1 c0 c1
            by_cases hbig : 510 < 4 + ((Rp.enh a b c).length : Int) + s.size
            · have HB := Lib.hid hbig
              go_wp2_with (first | (go_at_call 26; (with_reducible refine (hsh _).mono ?_); rintro e w1 ⟨rfl, hb⟩; replace M := Aside.mk (M.out.next hb); clear hb; (try clear z0); (try clear z1); (try clear z2); (try clear z3); (try clear z4); (try clear zl); have z0 := Mine.at M.out 0 _ rfl; have z1 := Mine.at M.out 1 _ rfl; have z2 := Mine.at M.out 2 _ rfl; have z3 := Mine.at M.out 3 _ rfl; have z4 := Mine.at M.out 4 _ rfl; have zl := Mine.lt M.out) | (go_at_call 32; (with_reducible refine (henh _ (hE.next M.out.low)).mono ?_); rintro e w1 ⟨rfl, hb⟩; replace M := Aside.mk (M.out.next hb); clear hb; (try clear z0); (try clear z1); (try clear z2); (try clear z3); (try clear z4); (try clear zl); have z0 := Mine.at M.out 0 _ rfl; have z1 := Mine.at M.out 1 _ rfl; have z2 := Mine.at M.out 2 _ rfl; have z3 := Mine.at M.out 3 _ rfl; have z4 := Mine.at M.out 4 _ rfl; have zl := Mine.lt M.out))
              go_roundw
              case rel => exact ⟨k + 1, true, by omega, by go_num, by go_num, ⟨by rw [HT.out, List.any_append, ← Bool.or_assoc, ← HR.out.1]; simp [Rp.big]; omega, by rw [HT.out, List.all_append, HR.out.2.1]; simp [HV.out], M.out⟩⟩
              case measure => simp [intOf]; omega
            · have HB := Lib.hid hbig
              go_wp2_with (first | (go_at_call 26; (with_reducible refine (hsh _).mono ?_); rintro e w1 ⟨rfl, hb⟩; replace M := Aside.mk (M.out.next hb); clear hb; (try clear z0); (try clear z1); (try clear z2); (try clear z3); (try clear z4); (try clear zl); have z0 := Mine.at M.out 0 _ rfl; have z1 := Mine.at M.out 1 _ rfl; have z2 := Mine.at M.out 2 _ rfl; have z3 := Mine.at M.out 3 _ rfl; have z4 := Mine.at M.out 4 _ rfl; have zl := Mine.lt M.out) | (go_at_call 32; (with_reducible refine (henh _ (hE.next M.out.low)).mono ?_); rintro e w1 ⟨rfl, hb⟩; replace M := Aside.mk (M.out.next hb); clear hb; (try clear z0); (try clear z1); (try clear z2); (try clear z3); (try clear z4); (try clear zl); have z0 := Mine.at M.out 0 _ rfl; have z1 := Mine.at M.out 1 _ rfl; have z2 := Mine.at M.out 2 _ rfl; have z3 := Mine.at M.out 3 _ rfl; have z4 := Mine.at M.out 4 _ rfl; have zl := Mine.lt M.out))
              go_roundw
              case rel => exact ⟨k + 1, false, by omega, by go_num, by go_num, ⟨by rw [HT.out, List.any_append, ← Bool.or_assoc, ← HR.out.1]; simp [Rp.big]; omega, by rw [HT.out, List.all_append, HR.out.2.1]; simp [HV.out], M.out⟩⟩
              case measure => simp [intOf]; omega
        · have hv' : Rp.shown s.data.toList = false := by simpa using hv
          rw [hv'] at hsh
          have HA : Hid (t.all (fun s => Rp.shown s.data.toList) = false) := Lib.hid (by
            cases hx : t.all (fun s => Rp.shown s.data.toList) with
            | false => rfl
            | true => exact absurd (List.all_eq_true.1 hx s hmem.out) hv)
          clear hv hv'
          go_wp2_with ((go_at_call 26; (with_reducible refine (hsh _).mono ?_); rintro e w1 ⟨rfl, hb⟩; replace M := Aside.mk (M.out.next hb); clear hb; (try clear z0); (try clear z1); (try clear z2); (try clear z3); (try clear z4); (try clear zl); have z0 := Mine.at M.out 0 _ rfl; have z1 := Mine.at M.out 1 _ rfl; have z2 := Mine.at M.out 2 _ rfl; have z3 := Mine.at M.out 3 _ rfl; have z4 := Mine.at M.out 4 _ rfl; have zl := Mine.lt M.out))
          go_ret
          exact ⟨ret_int (Rp.rest_2 HA.out).symm, M.out.low⟩
      · have hke : k = t.length := by omega
        subst hke
        have h1 := HR.out.1
        have h2 := HR.out.2.1
        rw [List.take_of_length_le (Nat.le_refl _)] at h1 h2
        have H2 := Lib.hid h2
        have H1 := Lib.hid h1
        clear h1 h2 HR
        cases lb with
        | true =>
          go_wp2
          go_ret
          exact ⟨ret_int (Rp.rest_3 H2.out H1.out.symm).symm, M.out.low⟩
        | false =>
          go_wp2
          go_ret
          exact ⟨ret_int (Rp.rest_0 H2.out H1.out.symm).symm, M.out.low⟩
set_option maxHeartbeats 4000000 in
theorem right_nil (code a b c : Int) (A : Option Addr) (cp : Nat) (w : World) (h0 : Rp.cls code ≠ 0) (hf : Rp.fits code a b c = true) :
    Calls Tryd.prog 17 #[.agg #[.int .i64 code, .int .i64 a, .int .i64 b, .int .i64 c, .slice A 0 cp]] w fun e w' => e = .returned (.int .i64 (Rp.rest a b c [])) ∧ Below w.heap.size w w' := by
  have M : Aside (Mine w [(w.heap.size, #[.int .i64 code, .int .i64 a, .int .i64 b, .int .i64 c, .slice A 0 cp], 25)] (w.alloc (.cells #[.int .i64 code, .int .i64 a, .int .i64 b, .int .i64 c, .slice A 0 cp] 25))) := ⟨(Mine.start w).alloc _ _⟩
  have e0 : ((Rp.cls code : Int) == 0) = false := by simpa using h0
  clear h0
  go_enter Tryd.func17, Tryd.ntmps17
  go_wp2_with (first | (go_at_call 19; (with_reducible refine (class_any _ _).mono ?_); rintro e w' ⟨rfl, rfl⟩) | (go_at_call 36; (with_reducible refine (fits_any _ _ _ _ _).mono ?_); rintro e w1 ⟨rfl, hb⟩; replace M := Aside.mk (M.out.next hb); clear hb; (try clear z0); (try clear z1); (try clear z2); (try clear z3); (try clear z4); (try clear zl); have z0 := Mine.at M.out 0 _ rfl; have z1 := Mine.at M.out 1 _ rfl; have z2 := Mine.at M.out 2 _ rfl; have z3 := Mine.at M.out 3 _ rfl; have z4 := Mine.at M.out 4 _ rfl; have zl := Mine.lt M.out))
  refine wp_loop_rounds 1 ?_
  rw [rounds_succ]
  go_wp2
  go_ret
  exact ⟨rfl, M.out.low⟩
theorem right_any (code a b c : Int) (A : Option Addr) (cp : Nat) (t : List ByteArray) (w : World) (hE : Env w) (hS : Strs w A t) (hs : ∀ s ∈ t, s.size ≤ 140737488351232) (ht : t.length ≤ 140737488351232) (a0 : -9223372036854775808 ≤ a) (a1 : a ≤ 9223372036854775807) (b0 : -9223372036854775808 ≤ b) (b1 : b ≤ 9223372036854775807) (c0 : -9223372036854775808 ≤ c) (c1 : c ≤ 9223372036854775807) :
    Calls Tryd.prog 17 #[.agg #[.int .i64 code, .int .i64 a, .int .i64 b, .int .i64 c, .slice A t.length cp]] w fun e w' => e = .returned (.int .i64 (Rp.right code a b c t)) ∧ Below w.heap.size w w' := by
  unfold Rp.right
  by_cases h : Rp.cls code = 0 ∨ Rp.fits code a b c = false
  · rw [if_pos h]
    exact right_range code a b c A cp t w h
  · rw [if_neg h]
    have hc : Rp.cls code ≠ 0 := fun q => h (.inl q)
    have hf : Rp.fits code a b c = true := by cases hf : Rp.fits code a b c with | true => rfl | false => exact absurd (.inr hf) h
    cases t with
    | nil => exact right_nil code a b c A cp w hc hf
    | cons s r => exact right_fine code a b c A cp (s :: r) w hE hc hf hS hs ht (by simp) a0 a1 b0 b1 c0 c1
end Go.Proofs.YtfeedokfcebjjaaDoor
