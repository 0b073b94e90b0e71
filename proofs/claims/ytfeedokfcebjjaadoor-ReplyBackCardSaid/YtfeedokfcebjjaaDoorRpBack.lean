/-
  Walks of the package reply: ReplyBack.
-/
import Derived.Test.YtfeedokfcebjjaaDoorRpLawC
set_option linter.unusedVariables false
set_option linter.unusedSimpArgs false
namespace Go.Proofs.YtfeedokfcebjjaaDoor
open Go.RowKit
set_option maxRecDepth 100000
attribute [local go_sem] equal3
theorem Strs.take {w : World} {A : Option Addr} {xs : List ByteArray} (h : Strs w A xs) (k : Nat) : Strs w A (xs.take k) := by
  intro hn
  obtain ⟨b, o, e, hl, hc⟩ := h (by rintro rfl; simp at hn)
  exact ⟨b, o, e, hl, fun j hj => by rw [hc j (by rw [List.length_take] at hj; omega), List.getElem_take]⟩
def noDig (t : List ByteArray) : Prop := ∀ s ∈ t, ∀ x r, s.data.toList = x :: r → Rp.dgt x = false
theorem noDig_snoc {t : List ByteArray} {s : ByteArray} (h : noDig t) (hs : ∀ x r, s.data.toList = x :: r → Rp.dgt x = false) : noDig (t ++ [s]) := by
  intro q hq
  rcases List.mem_append.1 hq with hq | hq
  · exact h q hq
  · rw [List.mem_singleton] at hq; subst hq; exact hs
theorem first_of {s : ByteArray} (h : 0 < s.size) {x : UInt8} (hx : s[0]'h = x) : ∀ y r, s.data.toList = y :: r → y = x := by
  intro y r e
  have : s.data.toList[0]'(by simpa using h) = x := by rw [← hx]; rfl
  simp only [e, List.getElem_cons_zero] at this
  exact this
set_option maxHeartbeats 8000000 in
theorem back_few1 (code a b c : Int) (A : Option Addr) (m cp : Nat) (t : List ByteArray) (hm : t.length = m) (B : Option Addr) (n cq : Nat) (u : List ByteArray) (hn : u.length = n) (w : World) (hE : Env w) (hS : Strs w A t) (hU : Strs w B u) (hl : m ≤ 9223372036854775807) (hs : ∀ s ∈ t, s.size ≤ 9223372036854775807) (hl2 : n ≤ 9223372036854775807) (hs2 : ∀ s ∈ u, s.size ≤ 9223372036854775807) (a0 : -9223372036854775808 ≤ a) (a1 : a ≤ 9223372036854775807) (b0 : -9223372036854775808 ≤ b) (b1 : b ≤ 9223372036854775807) (c0 : -9223372036854775808 ≤ c) (c1 : c ≤ 9223372036854775807) (d0 : -9223372036854775808 ≤ code) (d1 : code ≤ 9223372036854775807) (hf : Rp.few t = false) :
    Calls Tryd.prog 5 #[.agg #[.int .i64 code, .int .i64 a, .int .i64 b, .int .i64 c, .slice A m cp], .slice B n cq] w fun e w' => e = .returned (.bool true) ∧ Below w.heap.size w w' := by
  have Hs := Aside.mk hs
  have Hs2 := Aside.mk hs2
  have K : Aside (Kp w [(w.heap.size, #[.int .i64 code, .int .i64 a, .int .i64 b, .int .i64 c, .slice A m cp], 25)] [(B, u), (A, t)] (w.alloc (.cells #[.int .i64 code, .int .i64 a, .int .i64 b, .int .i64 c, .slice A m cp] 25))) := ⟨(((Kp.start w).str hS).str hU).blk #[.int .i64 code, .int .i64 a, .int .i64 b, .int .i64 c, .slice A m cp] 25⟩
  clear hS hs hU hs2
  go_enter Tryd.func5, Tryd.ntmps5
  go_wp2_with (first | (go_at_call 8; (with_reducible refine (awake_any _ (hE.next K.out.low)).mono ?_); rintro e w1 ⟨rfl, hb⟩; replace K := Aside.mk (K.out.next hb); clear hb; (try clear z0); (try clear z1); (try clear z2); (try clear z3); (try clear z4); (try clear zl); have z0 := Blk.cell (K.out.own _ (List.mem_cons_self ..)) 0 _ rfl; have z1 := Blk.cell (K.out.own _ (List.mem_cons_self ..)) 1 _ rfl; have z2 := Blk.cell (K.out.own _ (List.mem_cons_self ..)) 2 _ rfl; have z3 := Blk.cell (K.out.own _ (List.mem_cons_self ..)) 3 _ rfl; have z4 := Blk.cell (K.out.own _ (List.mem_cons_self ..)) 4 _ rfl; have zl := Blk.lt (K.out.own _ (List.mem_cons_self ..))) | (go_at_call 9; (with_reducible refine (few_m A m cp t hm _ (K.out.textm (by simp)) hl Hs.out false hf).mono ?_); rintro e w' ⟨rfl, hw⟩; have hw' := hw.symm; clear hw; subst hw'))
  go_ret
  exact ⟨rfl, K.out.low⟩
set_option maxHeartbeats 8000000 in
theorem back_few2 (code a b c : Int) (A : Option Addr) (m cp : Nat) (t : List ByteArray) (hm : t.length = m) (B : Option Addr) (n cq : Nat) (u : List ByteArray) (hn : u.length = n) (w : World) (hE : Env w) (hS : Strs w A t) (hU : Strs w B u) (hl : m ≤ 9223372036854775807) (hs : ∀ s ∈ t, s.size ≤ 9223372036854775807) (hl2 : n ≤ 9223372036854775807) (hs2 : ∀ s ∈ u, s.size ≤ 9223372036854775807) (a0 : -9223372036854775808 ≤ a) (a1 : a ≤ 9223372036854775807) (b0 : -9223372036854775808 ≤ b) (b1 : b ≤ 9223372036854775807) (c0 : -9223372036854775808 ≤ c) (c1 : c ≤ 9223372036854775807) (d0 : -9223372036854775808 ≤ code) (d1 : code ≤ 9223372036854775807) (hf : Rp.few t = true) (hg : Rp.few u = false) :
    Calls Tryd.prog 5 #[.agg #[.int .i64 code, .int .i64 a, .int .i64 b, .int .i64 c, .slice A m cp], .slice B n cq] w fun e w' => e = .returned (.bool true) ∧ Below w.heap.size w w' := by
  have Hs := Aside.mk hs
  have Hs2 := Aside.mk hs2
  have K : Aside (Kp w [(w.heap.size, #[.int .i64 code, .int .i64 a, .int .i64 b, .int .i64 c, .slice A m cp], 25)] [(B, u), (A, t)] (w.alloc (.cells #[.int .i64 code, .int .i64 a, .int .i64 b, .int .i64 c, .slice A m cp] 25))) := ⟨(((Kp.start w).str hS).str hU).blk #[.int .i64 code, .int .i64 a, .int .i64 b, .int .i64 c, .slice A m cp] 25⟩
  clear hS hs hU hs2
  go_enter Tryd.func5, Tryd.ntmps5
  go_wp2_with (first | (go_at_call 8; (with_reducible refine (awake_any _ (hE.next K.out.low)).mono ?_); rintro e w1 ⟨rfl, hb⟩; replace K := Aside.mk (K.out.next hb); clear hb; (try clear z0); (try clear z1); (try clear z2); (try clear z3); (try clear z4); (try clear zl); have z0 := Blk.cell (K.out.own _ (List.mem_cons_self ..)) 0 _ rfl; have z1 := Blk.cell (K.out.own _ (List.mem_cons_self ..)) 1 _ rfl; have z2 := Blk.cell (K.out.own _ (List.mem_cons_self ..)) 2 _ rfl; have z3 := Blk.cell (K.out.own _ (List.mem_cons_self ..)) 3 _ rfl; have z4 := Blk.cell (K.out.own _ (List.mem_cons_self ..)) 4 _ rfl; have zl := Blk.lt (K.out.own _ (List.mem_cons_self ..))) | (go_at_call 9; (with_reducible refine (few_m A m cp t hm _ (K.out.textm (by simp)) hl Hs.out true hf).mono ?_); rintro e w' ⟨rfl, hw⟩; have hw' := hw.symm; clear hw; subst hw') | (go_at_call 9; (with_reducible refine (few_m B n cq u hn _ (K.out.textm (by simp)) hl2 Hs2.out false hg).mono ?_); rintro e w' ⟨rfl, hw⟩; have hw' := hw.symm; clear hw; subst hw'))
  go_ret
  exact ⟨rfl, K.out.low⟩
set_option maxHeartbeats 8000000 in
theorem back_some_bad (code a b c : Int) (A : Option Addr) (m cp : Nat) (t : List ByteArray) (hm : t.length = m) (B : Option Addr) (n cq : Nat) (u : List ByteArray) (hn : u.length = n) (w : World) (hE : Env w) (hS : Strs w A t) (hU : Strs w B u) (hl : m ≤ 9223372036854775807) (hs : ∀ s ∈ t, s.size ≤ 9223372036854775807) (hl2 : n ≤ 9223372036854775807) (hs2 : ∀ s ∈ u, s.size ≤ 9223372036854775807) (a0 : -9223372036854775808 ≤ a) (a1 : a ≤ 9223372036854775807) (b0 : -9223372036854775808 ≤ b) (b1 : b ≤ 9223372036854775807) (c0 : -9223372036854775808 ≤ c) (c1 : c ≤ 9223372036854775807) (d0 : -9223372036854775808 ≤ code) (d1 : code ≤ 9223372036854775807) (hf : Rp.few t = true) (hg : Rp.few u = true) (h3 : same3 a b c 0 0 0 = false) (r : Int) (hr : Rp.right code a b c t = r) (hr0 : r ≠ 0) (hr1 : (r == 0) = false) (hr2 : (r != 0) = true) :
    Calls Tryd.prog 5 #[.agg #[.int .i64 code, .int .i64 a, .int .i64 b, .int .i64 c, .slice A m cp], .slice B n cq] w fun e w' => e = .returned (.bool true) ∧ Below w.heap.size w w' := by
  have Hs := Aside.mk hs
  have Hs2 := Aside.mk hs2
  have K : Aside (Kp w [(w.heap.size, #[.int .i64 code, .int .i64 a, .int .i64 b, .int .i64 c, .slice A m cp], 25)] [(B, u), (A, t)] (w.alloc (.cells #[.int .i64 code, .int .i64 a, .int .i64 b, .int .i64 c, .slice A m cp] 25))) := ⟨(((Kp.start w).str hS).str hU).blk #[.int .i64 code, .int .i64 a, .int .i64 b, .int .i64 c, .slice A m cp] 25⟩
  clear hS hs hU hs2
  have h60 := (Rp.few_len hf).1
  have Hz := Aside.mk (fun s h => Nat.le_trans ((Rp.few_len hf).2 s h) (by decide : 1000 ≤ 140737488351232))
  have Hy := Aside.mk (fun s h => Nat.le_trans ((Rp.few_len hf).2 s h) (by decide : 1000 ≤ 1000000))
  have h60u := (Rp.few_len hg).1
  rw [hm] at h60
  rw [hn] at h60u
  go_enter Tryd.func5, Tryd.ntmps5
  go_wp2_with (first | (go_at_call 8; (with_reducible refine (awake_any _ (hE.next K.out.low)).mono ?_); rintro e w1 ⟨rfl, hb⟩; replace K := Aside.mk (K.out.next hb); clear hb; (try clear z0); (try clear z1); (try clear z2); (try clear z3); (try clear z4); (try clear zl); have z0 := Blk.cell (K.out.own _ (List.mem_cons_self ..)) 0 _ rfl; have z1 := Blk.cell (K.out.own _ (List.mem_cons_self ..)) 1 _ rfl; have z2 := Blk.cell (K.out.own _ (List.mem_cons_self ..)) 2 _ rfl; have z3 := Blk.cell (K.out.own _ (List.mem_cons_self ..)) 3 _ rfl; have z4 := Blk.cell (K.out.own _ (List.mem_cons_self ..)) 4 _ rfl; have zl := Blk.lt (K.out.own _ (List.mem_cons_self ..))) | (go_at_call 9; (with_reducible refine (few_m A m cp t hm _ (K.out.textm (by simp)) hl Hs.out true hf).mono ?_); rintro e w' ⟨rfl, hw⟩; have hw' := hw.symm; clear hw; subst hw') | (go_at_call 9; (with_reducible refine (few_m B n cq u hn _ (K.out.textm (by simp)) hl2 Hs2.out true hg).mono ?_); rintro e w' ⟨rfl, hw⟩; have hw' := hw.symm; clear hw; subst hw') | (go_at_call 12; (with_reducible refine (print_bad_m code a b c _ m _ t hm _ (hE.next K.out.low) (K.out.textm (by simp)) Hz.out (by omega) a0 a1 b0 b1 c0 c1 r hr hr0).mono ?_); rintro e w4 ⟨rfl, hb⟩; replace K := Aside.mk (K.out.next hb); clear hb; (try clear z0); (try clear z1); (try clear z2); (try clear z3); (try clear z4); (try clear zl); have z0 := Blk.cell (K.out.own _ (List.mem_cons_self ..)) 0 _ rfl; have z1 := Blk.cell (K.out.own _ (List.mem_cons_self ..)) 1 _ rfl; have z2 := Blk.cell (K.out.own _ (List.mem_cons_self ..)) 2 _ rfl; have z3 := Blk.cell (K.out.own _ (List.mem_cons_self ..)) 3 _ rfl; have z4 := Blk.cell (K.out.own _ (List.mem_cons_self ..)) 4 _ rfl; have zl := Blk.lt (K.out.own _ (List.mem_cons_self ..))) | (go_at_call 17; (with_reducible refine (right_m code a b c _ m _ t hm _ (hE.next K.out.low) (K.out.textm (by simp)) Hz.out (by omega) a0 a1 b0 b1 c0 c1).mono ?_); rintro e w5 ⟨rfl, hb⟩; rw [hr]; replace K := Aside.mk (K.out.next hb); clear hb))
  go_ret
  exact ⟨rfl, K.out.low⟩
set_option maxHeartbeats 8000000 in
theorem back_some_ok (code a b c : Int) (A : Option Addr) (m cp : Nat) (t : List ByteArray) (hm : t.length = m) (B : Option Addr) (n cq : Nat) (u : List ByteArray) (hn : u.length = n) (w : World) (hE : Env w) (hS : Strs w A t) (hU : Strs w B u) (hl : m ≤ 9223372036854775807) (hs : ∀ s ∈ t, s.size ≤ 9223372036854775807) (hl2 : n ≤ 9223372036854775807) (hs2 : ∀ s ∈ u, s.size ≤ 9223372036854775807) (a0 : -9223372036854775808 ≤ a) (a1 : a ≤ 9223372036854775807) (b0 : -9223372036854775808 ≤ b) (b1 : b ≤ 9223372036854775807) (c0 : -9223372036854775808 ≤ c) (c1 : c ≤ 9223372036854775807) (d0 : -9223372036854775808 ≤ code) (d1 : code ≤ 9223372036854775807) (hf : Rp.few t = true) (hg : Rp.few u = true) (h3 : same3 a b c 0 0 0 = false) (hr : Rp.right code a b c t = 0) (n1 : 1 ≤ m) (n2 : m ≤ 32) (ll : List ByteArray) (hll : Rp.prn code a b c t = ll) (hlen : ll.length = m) (hz2 : ∀ s ∈ ll, s.size ≤ 1000000) (hzu : ∀ s ∈ ll ++ u, s.size ≤ 1000000) (hp12 : Rp.prs 0 0 (ll.take (m - 1)) = (12, 0, 0)) (hp : Rp.prs 0 0 (ll ++ u) = (0, m, code)) (hb2 : Rp.body code (((ll ++ u).take m).map Rp.say) = ((a, b, c), t)) :
    Calls Tryd.prog 5 #[.agg #[.int .i64 code, .int .i64 a, .int .i64 b, .int .i64 c, .slice A m cp], .slice B n cq] w fun e w' => e = .returned (.bool true) ∧ Below w.heap.size w w' := by
  have Hs := Aside.mk hs
  have Hs2 := Aside.mk hs2
  have K : Aside (Kp w [(w.heap.size, #[.int .i64 code, .int .i64 a, .int .i64 b, .int .i64 c, .slice A m cp], 25)] [(B, u), (A, t)] (w.alloc (.cells #[.int .i64 code, .int .i64 a, .int .i64 b, .int .i64 c, .slice A m cp] 25))) := ⟨(((Kp.start w).str hS).str hU).blk #[.int .i64 code, .int .i64 a, .int .i64 b, .int .i64 c, .slice A m cp] 25⟩
  clear hS hs hU hs2
  have h60 := (Rp.few_len hf).1
  have Hz := Aside.mk (fun s h => Nat.le_trans ((Rp.few_len hf).2 s h) (by decide : 1000 ≤ 140737488351232))
  have Hy := Aside.mk (fun s h => Nat.le_trans ((Rp.few_len hf).2 s h) (by decide : 1000 ≤ 1000000))
  have h60u := (Rp.few_len hg).1
  rw [hm] at h60
  rw [hn] at h60u
  have Hw := Aside.mk hz2
  have Hq := Aside.mk hzu
  clear hz2 hzu
  go_enter Tryd.func5, Tryd.ntmps5
  have hq0 := Lib.hid (True.intro)
  have hlt1 : (ll.take (m - 1)).length = m - 1 := by rw [List.length_take, hlen]; omega
  go_wp2_with (first | (go_at_call 8; (with_reducible refine (awake_any _ (hE.next K.out.low)).mono ?_); rintro e w1 ⟨rfl, hb⟩; replace K := Aside.mk (K.out.next hb); clear hb; (try clear z0); (try clear z1); (try clear z2); (try clear z3); (try clear z4); (try clear zl); have z0 := Blk.cell (K.out.own _ (List.mem_cons_self ..)) 0 _ rfl; have z1 := Blk.cell (K.out.own _ (List.mem_cons_self ..)) 1 _ rfl; have z2 := Blk.cell (K.out.own _ (List.mem_cons_self ..)) 2 _ rfl; have z3 := Blk.cell (K.out.own _ (List.mem_cons_self ..)) 3 _ rfl; have z4 := Blk.cell (K.out.own _ (List.mem_cons_self ..)) 4 _ rfl; have zl := Blk.lt (K.out.own _ (List.mem_cons_self ..))) | (go_at_call 9; (with_reducible refine (few_m A m cp t hm _ (K.out.textm (by simp)) hl Hs.out true hf).mono ?_); rintro e w' ⟨rfl, hw⟩; have hw' := hw.symm; clear hw; subst hw') | (go_at_call 9; (with_reducible refine (few_m B n cq u hn _ (K.out.textm (by simp)) hl2 Hs2.out true hg).mono ?_); rintro e w' ⟨rfl, hw⟩; have hw' := hw.symm; clear hw; subst hw') | (go_at_call 12; (with_reducible refine (print_ok_c code a b c _ m _ t hm _ (hE.next K.out.low) (K.out.textm (by simp)) Hy.out (by omega) n1 d0 d1 a0 a1 b0 b1 c0 c1 hr).mono ?_); rintro e w2 ⟨A2, c2, rfl, hs2, hc2, hb⟩; rw [hll] at hs2; replace K := Aside.mk (((K.out.next hb).str hs2).str (hs2.take (m - 1))); clear hb hs2; (try clear z0); (try clear z1); (try clear z2); (try clear z3); (try clear z4); (try clear zl); have z0 := Blk.cell (K.out.own _ (List.mem_cons_self ..)) 0 _ rfl; have z1 := Blk.cell (K.out.own _ (List.mem_cons_self ..)) 1 _ rfl; have z2 := Blk.cell (K.out.own _ (List.mem_cons_self ..)) 2 _ rfl; have z3 := Blk.cell (K.out.own _ (List.mem_cons_self ..)) 3 _ rfl; have z4 := Blk.cell (K.out.own _ (List.mem_cons_self ..)) 4 _ rfl; have zl := Blk.lt (K.out.own _ (List.mem_cons_self ..))) | (at_builtin; have hq1 := hq0; clear hq1; refine app_copy rfl _ _ rfl (W0 := w2) ((Below.refl _ _).alloc (Nat.le_refl _) _) _ 0 0 [] rfl (by rfl) (Row.lit1 (Below.refl _ _)) A2 m c2 (by rfl) ll hlen ((K.out.alloc _).textm (by simp)) (by omega) m (by omega) ll (by simp) ?_; intro A3 c3 w3 hr3 hs3 hb3; clear hq0) | (at_builtin; have hq1 := hb3; clear hq1; refine app_copy rfl _ _ rfl (W0 := w2) hb3 A3 m c3 ll hlen (by rfl) hr3 B n cq (by rfl) u hn ((K.out.next hb3).textm (by simp)) (by omega) (m + n) rfl (ll ++ u) rfl ?_; intro A4 c4 w4 hr4 hs4 hb4; replace K := Aside.mk ((K.out.next hb4).str hs4); clear hr3 hs3 hb3 hr4 hs4 hb4) | (go_at_call 10; (with_reducible refine (parse_good_m (ll ++ u) _ (m + n) _ (by rw [List.length_append, hlen, hn]) m code a b c t hp hb2 _ (hE.next K.out.low) (K.out.textm (by simp)) Hq.out (by omega)).mono ?_); rintro e w5 ⟨A5, c5, rfl, hs5, hb⟩; replace K := Aside.mk (((K.out.next hb).str hs5).blk #[.int .i64 code, .int .i64 a, .int .i64 b, .int .i64 c, .slice A5 m c5] 25); clear hb hs5; have hq3 := Lib.hid True.intro; (try clear z0); (try clear z1); (try clear z2); (try clear z3); (try clear z4); (try clear zl); have z0 := Blk.cell (K.out.own _ (List.mem_cons_of_mem _ (List.mem_cons_self ..))) 0 _ rfl; have z1 := Blk.cell (K.out.own _ (List.mem_cons_of_mem _ (List.mem_cons_self ..))) 1 _ rfl; have z2 := Blk.cell (K.out.own _ (List.mem_cons_of_mem _ (List.mem_cons_self ..))) 2 _ rfl; have z3 := Blk.cell (K.out.own _ (List.mem_cons_of_mem _ (List.mem_cons_self ..))) 3 _ rfl; have z4 := Blk.cell (K.out.own _ (List.mem_cons_of_mem _ (List.mem_cons_self ..))) 4 _ rfl; have zl := Blk.lt (K.out.own _ (List.mem_cons_of_mem _ (List.mem_cons_self ..)))) | (at_builtin; have hq2 := hq3; clear hq2; refine app_copy rfl _ _ rfl (W0 := (w5.alloc (.cells #[.int .i64 code, .int .i64 a, .int .i64 b, .int .i64 c, .slice A5 m c5] 25))) ((Below.refl _ _).alloc (Nat.le_refl _) _) (some ⟨w5.heap.size + 1, 0, none⟩) 0 0 [] rfl (by rfl) (Row.lit2 (Below.refl _ _) _ (by simp)) A2 (m - 1) c2 (by rfl) (ll.take (m - 1)) hlt1 ((K.out.alloc _).textm (by simp)) (by omega) (m - 1) (by omega) (ll.take (m - 1)) (by simp) ?_; intro A6 c6 w6 hr6 hs6 hb6; replace K := Aside.mk ((K.out.next hb6).str hs6); clear hr6 hs6 hb6 hq3) | (go_at_call 10; (with_reducible refine (parse_bad_m (ll.take (m - 1)) _ (m - 1) _ hlt1 12 hp12 (by decide) _ (hE.next K.out.low) (K.out.textm (by simp)) (fun s h => Hw.out s (List.mem_of_mem_take h)) (by omega)).mono ?_); rintro e w7 ⟨rfl, hb⟩; replace K := Aside.mk (K.out.next hb); clear hb; (try clear z0); (try clear z1); (try clear z2); (try clear z3); (try clear z4); (try clear zl); have z0 := Blk.cell (K.out.own _ (List.mem_cons_of_mem _ (List.mem_cons_self ..))) 0 _ rfl; have z1 := Blk.cell (K.out.own _ (List.mem_cons_of_mem _ (List.mem_cons_self ..))) 1 _ rfl; have z2 := Blk.cell (K.out.own _ (List.mem_cons_of_mem _ (List.mem_cons_self ..))) 2 _ rfl; have z3 := Blk.cell (K.out.own _ (List.mem_cons_of_mem _ (List.mem_cons_self ..))) 3 _ rfl; have z4 := Blk.cell (K.out.own _ (List.mem_cons_of_mem _ (List.mem_cons_self ..))) 4 _ rfl; have zl := Blk.lt (K.out.own _ (List.mem_cons_of_mem _ (List.mem_cons_self ..))); (try clear y0); (try clear y1); (try clear y2); (try clear y3); (try clear y4); (try clear yl); have y0 := Blk.cell (K.out.own _ (List.mem_cons_self ..)) 0 _ rfl; have y1 := Blk.cell (K.out.own _ (List.mem_cons_self ..)) 1 _ rfl; have y2 := Blk.cell (K.out.own _ (List.mem_cons_self ..)) 2 _ rfl; have y3 := Blk.cell (K.out.own _ (List.mem_cons_self ..)) 3 _ rfl; have y4 := Blk.cell (K.out.own _ (List.mem_cons_self ..)) 4 _ rfl; have yl := Blk.lt (K.out.own _ (List.mem_cons_self ..)); replace K : Aside (Kp w _ _ (w7.alloc (.cells #[.int .i64 0, .int .i64 0, .int .i64 0, .int .i64 0, .slice none 0 0] 25))) := ⟨K.out.alloc _⟩) | (go_at_call 14; (with_reducible refine (same_s code a b c _ _ m _ _ t hm _ (K.out.textm (by simp)) (K.out.textm (by simp)) (by omega)).mono ?_); rintro e w8 ⟨rfl, hb⟩; replace K := Aside.mk (K.out.next hb); clear hb))
  go_ret
  exact ⟨rfl, K.out.low⟩
set_option maxHeartbeats 8000000 in
theorem back_zero_bad (code a b c : Int) (A : Option Addr) (m cp : Nat) (t : List ByteArray) (hm : t.length = m) (B : Option Addr) (n cq : Nat) (u : List ByteArray) (hn : u.length = n) (w : World) (hE : Env w) (hS : Strs w A t) (hU : Strs w B u) (hl : m ≤ 9223372036854775807) (hs : ∀ s ∈ t, s.size ≤ 9223372036854775807) (hl2 : n ≤ 9223372036854775807) (hs2 : ∀ s ∈ u, s.size ≤ 9223372036854775807) (a0 : -9223372036854775808 ≤ a) (a1 : a ≤ 9223372036854775807) (b0 : -9223372036854775808 ≤ b) (b1 : b ≤ 9223372036854775807) (c0 : -9223372036854775808 ≤ c) (c1 : c ≤ 9223372036854775807) (d0 : -9223372036854775808 ≤ code) (d1 : code ≤ 9223372036854775807) (hf : Rp.few t = true) (hg : Rp.few u = true) (h3 : same3 a b c 0 0 0 = true) (r : Int) (hr : Rp.right code a b c t = r) (hr0 : r ≠ 0) (hr1 : (r == 0) = false) (hr2 : (r != 0) = true) :
    Calls Tryd.prog 5 #[.agg #[.int .i64 code, .int .i64 a, .int .i64 b, .int .i64 c, .slice A m cp], .slice B n cq] w fun e w' => e = .returned (.bool true) ∧ Below w.heap.size w w' := by
  have Hs := Aside.mk hs
  have Hs2 := Aside.mk hs2
  have K : Aside (Kp w [(w.heap.size, #[.int .i64 code, .int .i64 a, .int .i64 b, .int .i64 c, .slice A m cp], 25)] [(B, u), (A, t)] (w.alloc (.cells #[.int .i64 code, .int .i64 a, .int .i64 b, .int .i64 c, .slice A m cp] 25))) := ⟨(((Kp.start w).str hS).str hU).blk #[.int .i64 code, .int .i64 a, .int .i64 b, .int .i64 c, .slice A m cp] 25⟩
  clear hS hs hU hs2
  have h60 := (Rp.few_len hf).1
  have Hz := Aside.mk (fun s h => Nat.le_trans ((Rp.few_len hf).2 s h) (by decide : 1000 ≤ 140737488351232))
  have Hy := Aside.mk (fun s h => Nat.le_trans ((Rp.few_len hf).2 s h) (by decide : 1000 ≤ 1000000))
  have h60u := (Rp.few_len hg).1
  rw [hm] at h60
  rw [hn] at h60u
  go_enter Tryd.func5, Tryd.ntmps5
  go_wp2_with (first | (go_at_call 8; (with_reducible refine (awake_any _ (hE.next K.out.low)).mono ?_); rintro e w1 ⟨rfl, hb⟩; replace K := Aside.mk (K.out.next hb); clear hb; (try clear z0); (try clear z1); (try clear z2); (try clear z3); (try clear z4); (try clear zl); have z0 := Blk.cell (K.out.own _ (List.mem_cons_self ..)) 0 _ rfl; have z1 := Blk.cell (K.out.own _ (List.mem_cons_self ..)) 1 _ rfl; have z2 := Blk.cell (K.out.own _ (List.mem_cons_self ..)) 2 _ rfl; have z3 := Blk.cell (K.out.own _ (List.mem_cons_self ..)) 3 _ rfl; have z4 := Blk.cell (K.out.own _ (List.mem_cons_self ..)) 4 _ rfl; have zl := Blk.lt (K.out.own _ (List.mem_cons_self ..))) | (go_at_call 9; (with_reducible refine (few_m A m cp t hm _ (K.out.textm (by simp)) hl Hs.out true hf).mono ?_); rintro e w' ⟨rfl, hw⟩; have hw' := hw.symm; clear hw; subst hw') | (go_at_call 9; (with_reducible refine (few_m B n cq u hn _ (K.out.textm (by simp)) hl2 Hs2.out true hg).mono ?_); rintro e w' ⟨rfl, hw⟩; have hw' := hw.symm; clear hw; subst hw'))
  go_loopw [5] (fun i wr => ∃ k : Nat, k ≤ m ∧ i = .int .i64 k ∧ noDig (t.take k) ∧ wr = w1) (fun i _ => m - (intOf i).toNat)
  case atStart => exact ⟨0, by omega, rfl, fun s h => by simp at h, rfl⟩
  case round =>
    obtain ⟨k, hk, rfl, hnd, rfl⟩ := hrel
    have HN := Aside.mk hnd
    clear hnd
    by_cases hlt : k < m
    · obtain ⟨bb, oo, rfl, hbl, hcell⟩ := (K.out.textm (show (A, t) ∈ _ by simp)).at k (by omega)
      have hsz := Hy.out t[k] (List.getElem_mem _)
      have HT := Lib.hid (List.take_succ_eq_append_getElem (l := t) (i := k) (by omega))
      generalize t[k] = s at hcell hsz HT
      by_cases h0 : 0 < s.size
      · obtain ⟨x, hx⟩ : ∃ x, s[0]'h0 = x := ⟨_, rfl⟩
        by_cases hx1 : (48 : Int) ≤ (x.toNat : Int)
        · by_cases hx2 : (x.toNat : Int) ≤ 57
          · go_wp2
            go_ret
            exact ⟨rfl, K.out.low⟩
          · have HR := Lib.hid (show noDig (t.take (k + 1)) by
              rw [HT.out]
              exact noDig_snoc HN.out fun y r e => by rw [first_of h0 hx y r e]; simp [Rp.dgt]; omega)
            go_wp2
            go_roundw
            case rel => exact ⟨k + 1, by omega, by go_num, HR.out, by trivial⟩
            case measure => simp [intOf]; omega
        · have HR := Lib.hid (show noDig (t.take (k + 1)) by
            rw [HT.out]
            exact noDig_snoc HN.out fun y r e => by rw [first_of h0 hx y r e]; simp [Rp.dgt]; omega)
          go_wp2
          go_roundw
          case rel => exact ⟨k + 1, by omega, by go_num, HR.out, by trivial⟩
          case measure => simp [intOf]; omega
      · have HR := Lib.hid (show noDig (t.take (k + 1)) by
          rw [HT.out]
          exact noDig_snoc HN.out fun y r e => by
            have := congrArg List.length e
            have hl : s.data.toList.length = s.size := by simp
            simp only [List.length_cons] at this
            omega)
        go_wp2
        go_roundw
        case rel => exact ⟨k + 1, by omega, by go_num, HR.out, by trivial⟩
        case measure => simp [intOf]; omega
    · obtain rfl : m = k := by omega
      have hall : noDig t := by have := HN.out; rw [List.take_of_length_le (by omega)] at this; exact this
      go_wp2_with (first | (go_at_call 12; (with_reducible refine (print_bad_m code a b c _ m _ t hm _ (hE.next K.out.low) (K.out.textm (by simp)) Hz.out (by omega) a0 a1 b0 b1 c0 c1 r hr hr0).mono ?_); rintro e w4 ⟨rfl, hb⟩; replace K := Aside.mk (K.out.next hb); clear hb; (try clear z0); (try clear z1); (try clear z2); (try clear z3); (try clear z4); (try clear zl); have z0 := Blk.cell (K.out.own _ (List.mem_cons_self ..)) 0 _ rfl; have z1 := Blk.cell (K.out.own _ (List.mem_cons_self ..)) 1 _ rfl; have z2 := Blk.cell (K.out.own _ (List.mem_cons_self ..)) 2 _ rfl; have z3 := Blk.cell (K.out.own _ (List.mem_cons_self ..)) 3 _ rfl; have z4 := Blk.cell (K.out.own _ (List.mem_cons_self ..)) 4 _ rfl; have zl := Blk.lt (K.out.own _ (List.mem_cons_self ..))) | (go_at_call 17; (with_reducible refine (right_m code a b c _ m _ t hm _ (hE.next K.out.low) (K.out.textm (by simp)) Hz.out (by omega) a0 a1 b0 b1 c0 c1).mono ?_); rintro e w5 ⟨rfl, hb⟩; rw [hr]; replace K := Aside.mk (K.out.next hb); clear hb))
      go_ret
      exact ⟨rfl, K.out.low⟩
set_option maxHeartbeats 8000000 in
theorem back_zero_ok (code a b c : Int) (A : Option Addr) (m cp : Nat) (t : List ByteArray) (hm : t.length = m) (B : Option Addr) (n cq : Nat) (u : List ByteArray) (hn : u.length = n) (w : World) (hE : Env w) (hS : Strs w A t) (hU : Strs w B u) (hl : m ≤ 9223372036854775807) (hs : ∀ s ∈ t, s.size ≤ 9223372036854775807) (hl2 : n ≤ 9223372036854775807) (hs2 : ∀ s ∈ u, s.size ≤ 9223372036854775807) (a0 : -9223372036854775808 ≤ a) (a1 : a ≤ 9223372036854775807) (b0 : -9223372036854775808 ≤ b) (b1 : b ≤ 9223372036854775807) (c0 : -9223372036854775808 ≤ c) (c1 : c ≤ 9223372036854775807) (d0 : -9223372036854775808 ≤ code) (d1 : code ≤ 9223372036854775807) (hf : Rp.few t = true) (hg : Rp.few u = true) (h3 : same3 a b c 0 0 0 = true) (hr : Rp.right code a b c t = 0) (n1 : 1 ≤ m) (n2 : m ≤ 32) (ll : List ByteArray) (hll : Rp.prn code a b c t = ll) (hlen : ll.length = m) (hz2 : ∀ s ∈ ll, s.size ≤ 1000000) (hzu : ∀ s ∈ ll ++ u, s.size ≤ 1000000) (hp12 : Rp.prs 0 0 (ll.take (m - 1)) = (12, 0, 0)) (hd : noDig t → Rp.prs 0 0 (ll ++ u) = (0, m, code) ∧ Rp.body code (((ll ++ u).take m).map Rp.say) = ((a, b, c), t)) :
    Calls Tryd.prog 5 #[.agg #[.int .i64 code, .int .i64 a, .int .i64 b, .int .i64 c, .slice A m cp], .slice B n cq] w fun e w' => e = .returned (.bool true) ∧ Below w.heap.size w w' := by
  have Hs := Aside.mk hs
  have Hs2 := Aside.mk hs2
  have K : Aside (Kp w [(w.heap.size, #[.int .i64 code, .int .i64 a, .int .i64 b, .int .i64 c, .slice A m cp], 25)] [(B, u), (A, t)] (w.alloc (.cells #[.int .i64 code, .int .i64 a, .int .i64 b, .int .i64 c, .slice A m cp] 25))) := ⟨(((Kp.start w).str hS).str hU).blk #[.int .i64 code, .int .i64 a, .int .i64 b, .int .i64 c, .slice A m cp] 25⟩
  clear hS hs hU hs2
  have h60 := (Rp.few_len hf).1
  have Hz := Aside.mk (fun s h => Nat.le_trans ((Rp.few_len hf).2 s h) (by decide : 1000 ≤ 140737488351232))
  have Hy := Aside.mk (fun s h => Nat.le_trans ((Rp.few_len hf).2 s h) (by decide : 1000 ≤ 1000000))
  have h60u := (Rp.few_len hg).1
  rw [hm] at h60
  rw [hn] at h60u
  have Hw := Aside.mk hz2
  have Hq := Aside.mk hzu
  clear hz2 hzu
  go_enter Tryd.func5, Tryd.ntmps5
  go_wp2_with (first | (go_at_call 8; (with_reducible refine (awake_any _ (hE.next K.out.low)).mono ?_); rintro e w1 ⟨rfl, hb⟩; replace K := Aside.mk (K.out.next hb); clear hb; (try clear z0); (try clear z1); (try clear z2); (try clear z3); (try clear z4); (try clear zl); have z0 := Blk.cell (K.out.own _ (List.mem_cons_self ..)) 0 _ rfl; have z1 := Blk.cell (K.out.own _ (List.mem_cons_self ..)) 1 _ rfl; have z2 := Blk.cell (K.out.own _ (List.mem_cons_self ..)) 2 _ rfl; have z3 := Blk.cell (K.out.own _ (List.mem_cons_self ..)) 3 _ rfl; have z4 := Blk.cell (K.out.own _ (List.mem_cons_self ..)) 4 _ rfl; have zl := Blk.lt (K.out.own _ (List.mem_cons_self ..))) | (go_at_call 9; (with_reducible refine (few_m A m cp t hm _ (K.out.textm (by simp)) hl Hs.out true hf).mono ?_); rintro e w' ⟨rfl, hw⟩; have hw' := hw.symm; clear hw; subst hw') | (go_at_call 9; (with_reducible refine (few_m B n cq u hn _ (K.out.textm (by simp)) hl2 Hs2.out true hg).mono ?_); rintro e w' ⟨rfl, hw⟩; have hw' := hw.symm; clear hw; subst hw'))
  go_loopw [5] (fun i wr => ∃ k : Nat, k ≤ m ∧ i = .int .i64 k ∧ noDig (t.take k) ∧ wr = w1) (fun i _ => m - (intOf i).toNat)
  case atStart => exact ⟨0, by omega, rfl, fun s h => by simp at h, rfl⟩
  case round =>
    obtain ⟨k, hk, rfl, hnd, rfl⟩ := hrel
    have HN := Aside.mk hnd
    clear hnd
    by_cases hlt : k < m
    · obtain ⟨bb, oo, rfl, hbl, hcell⟩ := (K.out.textm (show (A, t) ∈ _ by simp)).at k (by omega)
      have hsz := Hy.out t[k] (List.getElem_mem _)
      have HT := Lib.hid (List.take_succ_eq_append_getElem (l := t) (i := k) (by omega))
      generalize t[k] = s at hcell hsz HT
      by_cases h0 : 0 < s.size
      · obtain ⟨x, hx⟩ : ∃ x, s[0]'h0 = x := ⟨_, rfl⟩
        by_cases hx1 : (48 : Int) ≤ (x.toNat : Int)
        · by_cases hx2 : (x.toNat : Int) ≤ 57
          · go_wp2
            go_ret
            exact ⟨rfl, K.out.low⟩
          · have HR := Lib.hid (show noDig (t.take (k + 1)) by
              rw [HT.out]
              exact noDig_snoc HN.out fun y r e => by rw [first_of h0 hx y r e]; simp [Rp.dgt]; omega)
            go_wp2
            go_roundw
            case rel => exact ⟨k + 1, by omega, by go_num, HR.out, by trivial⟩
            case measure => simp [intOf]; omega
        · have HR := Lib.hid (show noDig (t.take (k + 1)) by
            rw [HT.out]
            exact noDig_snoc HN.out fun y r e => by rw [first_of h0 hx y r e]; simp [Rp.dgt]; omega)
          go_wp2
          go_roundw
          case rel => exact ⟨k + 1, by omega, by go_num, HR.out, by trivial⟩
          case measure => simp [intOf]; omega
      · have HR := Lib.hid (show noDig (t.take (k + 1)) by
          rw [HT.out]
          exact noDig_snoc HN.out fun y r e => by
            have := congrArg List.length e
            have hl : s.data.toList.length = s.size := by simp
            simp only [List.length_cons] at this
            omega)
        go_wp2
        go_roundw
        case rel => exact ⟨k + 1, by omega, by go_num, HR.out, by trivial⟩
        case measure => simp [intOf]; omega
    · obtain rfl : m = k := by omega
      have hall : noDig t := by have := HN.out; rw [List.take_of_length_le (by omega)] at this; exact this
      obtain ⟨hp, hb2⟩ := hd hall
      have hq0 := Lib.hid (True.intro)
      have hlt1 : (ll.take (m - 1)).length = m - 1 := by rw [List.length_take, hlen]; omega
      go_wp2_with (first | (go_at_call 12; (with_reducible refine (print_ok_c code a b c _ m _ t hm _ (hE.next K.out.low) (K.out.textm (by simp)) Hy.out (by omega) n1 d0 d1 a0 a1 b0 b1 c0 c1 hr).mono ?_); rintro e w2 ⟨A2, c2, rfl, hs2, hc2, hb⟩; rw [hll] at hs2; replace K := Aside.mk (((K.out.next hb).str hs2).str (hs2.take (m - 1))); clear hb hs2; (try clear z0); (try clear z1); (try clear z2); (try clear z3); (try clear z4); (try clear zl); have z0 := Blk.cell (K.out.own _ (List.mem_cons_self ..)) 0 _ rfl; have z1 := Blk.cell (K.out.own _ (List.mem_cons_self ..)) 1 _ rfl; have z2 := Blk.cell (K.out.own _ (List.mem_cons_self ..)) 2 _ rfl; have z3 := Blk.cell (K.out.own _ (List.mem_cons_self ..)) 3 _ rfl; have z4 := Blk.cell (K.out.own _ (List.mem_cons_self ..)) 4 _ rfl; have zl := Blk.lt (K.out.own _ (List.mem_cons_self ..))) | (at_builtin; have hq1 := hq0; clear hq1; refine app_copy rfl _ _ rfl (W0 := w2) ((Below.refl _ _).alloc (Nat.le_refl _) _) _ 0 0 [] rfl (by rfl) (Row.lit1 (Below.refl _ _)) A2 m c2 (by rfl) ll hlen ((K.out.alloc _).textm (by simp)) (by omega) m (by omega) ll (by simp) ?_; intro A3 c3 w3 hr3 hs3 hb3; clear hq0) | (at_builtin; have hq1 := hb3; clear hq1; refine app_copy rfl _ _ rfl (W0 := w2) hb3 A3 m c3 ll hlen (by rfl) hr3 B n cq (by rfl) u hn ((K.out.next hb3).textm (by simp)) (by omega) (m + n) rfl (ll ++ u) rfl ?_; intro A4 c4 w4 hr4 hs4 hb4; replace K := Aside.mk ((K.out.next hb4).str hs4); clear hr3 hs3 hb3 hr4 hs4 hb4) | (go_at_call 10; (with_reducible refine (parse_good_m (ll ++ u) _ (m + n) _ (by rw [List.length_append, hlen, hn]) m code a b c t hp hb2 _ (hE.next K.out.low) (K.out.textm (by simp)) Hq.out (by omega)).mono ?_); rintro e w5 ⟨A5, c5, rfl, hs5, hb⟩; replace K := Aside.mk (((K.out.next hb).str hs5).blk #[.int .i64 code, .int .i64 a, .int .i64 b, .int .i64 c, .slice A5 m c5] 25); clear hb hs5; have hq3 := Lib.hid True.intro; (try clear z0); (try clear z1); (try clear z2); (try clear z3); (try clear z4); (try clear zl); have z0 := Blk.cell (K.out.own _ (List.mem_cons_of_mem _ (List.mem_cons_self ..))) 0 _ rfl; have z1 := Blk.cell (K.out.own _ (List.mem_cons_of_mem _ (List.mem_cons_self ..))) 1 _ rfl; have z2 := Blk.cell (K.out.own _ (List.mem_cons_of_mem _ (List.mem_cons_self ..))) 2 _ rfl; have z3 := Blk.cell (K.out.own _ (List.mem_cons_of_mem _ (List.mem_cons_self ..))) 3 _ rfl; have z4 := Blk.cell (K.out.own _ (List.mem_cons_of_mem _ (List.mem_cons_self ..))) 4 _ rfl; have zl := Blk.lt (K.out.own _ (List.mem_cons_of_mem _ (List.mem_cons_self ..)))) | (at_builtin; have hq2 := hq3; clear hq2; refine app_copy rfl _ _ rfl (W0 := (w5.alloc (.cells #[.int .i64 code, .int .i64 a, .int .i64 b, .int .i64 c, .slice A5 m c5] 25))) ((Below.refl _ _).alloc (Nat.le_refl _) _) (some ⟨w5.heap.size + 1, 0, none⟩) 0 0 [] rfl (by rfl) (Row.lit2 (Below.refl _ _) _ (by simp)) A2 (m - 1) c2 (by rfl) (ll.take (m - 1)) hlt1 ((K.out.alloc _).textm (by simp)) (by omega) (m - 1) (by omega) (ll.take (m - 1)) (by simp) ?_; intro A6 c6 w6 hr6 hs6 hb6; replace K := Aside.mk ((K.out.next hb6).str hs6); clear hr6 hs6 hb6 hq3) | (go_at_call 10; (with_reducible refine (parse_bad_m (ll.take (m - 1)) _ (m - 1) _ hlt1 12 hp12 (by decide) _ (hE.next K.out.low) (K.out.textm (by simp)) (fun s h => Hw.out s (List.mem_of_mem_take h)) (by omega)).mono ?_); rintro e w7 ⟨rfl, hb⟩; replace K := Aside.mk (K.out.next hb); clear hb; (try clear z0); (try clear z1); (try clear z2); (try clear z3); (try clear z4); (try clear zl); have z0 := Blk.cell (K.out.own _ (List.mem_cons_of_mem _ (List.mem_cons_self ..))) 0 _ rfl; have z1 := Blk.cell (K.out.own _ (List.mem_cons_of_mem _ (List.mem_cons_self ..))) 1 _ rfl; have z2 := Blk.cell (K.out.own _ (List.mem_cons_of_mem _ (List.mem_cons_self ..))) 2 _ rfl; have z3 := Blk.cell (K.out.own _ (List.mem_cons_of_mem _ (List.mem_cons_self ..))) 3 _ rfl; have z4 := Blk.cell (K.out.own _ (List.mem_cons_of_mem _ (List.mem_cons_self ..))) 4 _ rfl; have zl := Blk.lt (K.out.own _ (List.mem_cons_of_mem _ (List.mem_cons_self ..))); (try clear y0); (try clear y1); (try clear y2); (try clear y3); (try clear y4); (try clear yl); have y0 := Blk.cell (K.out.own _ (List.mem_cons_self ..)) 0 _ rfl; have y1 := Blk.cell (K.out.own _ (List.mem_cons_self ..)) 1 _ rfl; have y2 := Blk.cell (K.out.own _ (List.mem_cons_self ..)) 2 _ rfl; have y3 := Blk.cell (K.out.own _ (List.mem_cons_self ..)) 3 _ rfl; have y4 := Blk.cell (K.out.own _ (List.mem_cons_self ..)) 4 _ rfl; have yl := Blk.lt (K.out.own _ (List.mem_cons_self ..)); replace K : Aside (Kp w _ _ (w7.alloc (.cells #[.int .i64 0, .int .i64 0, .int .i64 0, .int .i64 0, .slice none 0 0] 25))) := ⟨K.out.alloc _⟩) | (go_at_call 14; (with_reducible refine (same_s code a b c _ _ m _ _ t hm _ (K.out.textm (by simp)) (K.out.textm (by simp)) (by omega)).mono ?_); rintro e w8 ⟨rfl, hb⟩; replace K := Aside.mk (K.out.next hb); clear hb))
      go_ret
      exact ⟨rfl, K.out.low⟩
theorem back_any (w : World) (hE : Env w) (code a b c : Int) (A : Option Addr) (cp : Nat) (t : List ByteArray) (hS : Strs w A t) (hl : t.length ≤ 9223372036854775807) (hs : ∀ s ∈ t, s.size ≤ 9223372036854775807)
    (wd : (Lit.int .i64 code).wf = true) (wa : (Lit.int .i64 a).wf = true) (wb : (Lit.int .i64 b).wf = true) (wc : (Lit.int .i64 c).wf = true)
    (B : Option Addr) (cq : Nat) (u : List ByteArray) (hU : Strs w B u) (hl2 : u.length ≤ 9223372036854775807) (hs2 : ∀ s ∈ u, s.size ≤ 9223372036854775807) :
    Calls Tryd.prog 5 #[.agg #[.int .i64 code, .int .i64 a, .int .i64 b, .int .i64 c, .slice A t.length cp], .slice B u.length cq] w fun e w' => e = .returned (.bool true) ∧ Below w.heap.size w w' := by
  obtain ⟨d0, d1⟩ := i64_wf wd
  obtain ⟨a0, a1⟩ := i64_wf wa
  obtain ⟨b0, b1⟩ := i64_wf wb
  obtain ⟨c0, c1⟩ := i64_wf wc
  cases hf : Rp.few t with
  | false => exact back_few1 code a b c A _ cp t rfl B _ cq u rfl w hE hS hU hl hs hl2 hs2 a0 a1 b0 b1 c0 c1 d0 d1 hf
  | true =>
    cases hg : Rp.few u with
    | false => exact back_few2 code a b c A _ cp t rfl B _ cq u rfl w hE hS hU hl hs hl2 hs2 a0 a1 b0 b1 c0 c1 d0 d1 hf hg
    | true =>
      have hzu := (Rp.few_len hg).2
      by_cases hr : Rp.right code a b c t = 0
      · obtain ⟨⟨n1, n2⟩, _, ll, hll, hlen, _, _, h12, hz⟩ := Rp.back_plain0 hr u
        have hz4 : ∀ s ∈ ll ++ u, s.size ≤ 1000000 := fun s h => by
          rcases List.mem_append.1 h with h | h
          · exact hz s h
          · exact Nat.le_trans (hzu s h) (by decide)
        cases h3 : same3 a b c 0 0 0 with
        | false =>
          obtain ⟨_, _, ll', hll', _, hp, hb, _, _⟩ := Rp.back_plain hr (fun q => absurd (show same3 a b c 0 0 0 = true from q) (by rw [h3]; simp)) u
          obtain rfl : ll' = ll := hll'.symm.trans hll
          exact back_some_ok code a b c A _ cp t rfl B _ cq u rfl w hE hS hU hl hs hl2 hs2 a0 a1 b0 b1 c0 c1 d0 d1 hf hg h3 hr n1 n2 ll' hll hlen hz hz4 h12 hp hb
        | true =>
          refine back_zero_ok code a b c A _ cp t rfl B _ cq u rfl w hE hS hU hl hs hl2 hs2 a0 a1 b0 b1 c0 c1 d0 d1 hf hg h3 hr n1 n2 ll hll hlen hz hz4 h12 fun hd => ?_
          obtain ⟨_, _, ll', hll', _, hp, hb, _, _⟩ := Rp.back_plain hr (fun _ => hd) u
          obtain rfl : ll' = ll := hll'.symm.trans hll
          exact ⟨hp, hb⟩
      · cases h3 : same3 a b c 0 0 0 with
        | false => exact back_some_bad code a b c A _ cp t rfl B _ cq u rfl w hE hS hU hl hs hl2 hs2 a0 a1 b0 b1 c0 c1 d0 d1 hf hg h3 _ rfl hr (by simpa using hr) (by simpa using hr)
        | true => exact back_zero_bad code a b c A _ cp t rfl B _ cq u rfl w hE hS hU hl hs hl2 hs2 a0 a1 b0 b1 c0 c1 d0 d1 hf hg h3 _ rfl hr (by simpa using hr) (by simpa using hr)
end Go.Proofs.YtfeedokfcebjjaaDoor
