/-
  Walks of the package reply: ReplyTells.
-/
import Derived.Test.YtfeedokfcebjjaaDoorRpLawC
import Derived.Test.YtfeedokfcebjjaaDoorRrE
import Derived.Test.YtfeedokfcebjjaaDoorRrH
import Derived.Test.YtfeedokfcebjjaaDoorQuiet2
set_option linter.unusedVariables false
set_option linter.unusedSimpArgs false
namespace Go.Proofs.YtfeedokfcebjjaaDoor
open Go.RowKit
set_option maxRecDepth 100000
attribute [local go_sem] equal3
theorem refSame_s (A A' : Option Addr) (m cp cp' : Nat) (xs : List ByteArray) (hm : xs.length = m) (w : World) (hx : Strs w A xs) (hy : Strs w A' xs) (lx : m ≤ 1000000) :
    Calls Tryd.prog 16 #[.slice A m cp, .slice A' m cp'] w fun e w' => e = .returned (.bool true) ∧ Below w.heap.size w w' := by
  have := refSame_m A A' m m cp cp' xs xs hm hm w hx hy lx lx
  rw [decide_eq_true rfl] at this
  exact this
/-- What Parse says, in one form. -/
theorem ps_form (l : List ByteArray) : ∃ (x0 x1 x2 x3 : Int) (kx : Nat) (xs : List ByteArray) (er : Int), xs.length = kx ∧ kx ≤ 1000 ∧ ∀ (w w' : World) (e : Ending), PsOut l w e w' →
    ∃ A' c', e = .returned (.tuple #[.agg #[.int .i64 x0, .int .i64 x1, .int .i64 x2, .int .i64 x3, .slice A' kx c'], .int .i64 kx, .int .i64 er]) ∧ Strs w' A' xs ∧ Below w.heap.size w w' := by
  obtain ⟨er, k, n, h⟩ : ∃ er k n, Rp.prs 0 0 l = (er, k, n) := ⟨_, _, _, rfl⟩
  by_cases h0 : er = 0
  · subst h0
    obtain ⟨m, h1, h2, h3, h4, _, _⟩ := Rp.prs_true l 0 0 k n h
    have hlen := (Rp.again_right h).1
    obtain ⟨f1, f2, f3, xs, hb⟩ : ∃ f1 f2 f3 xs, Rp.body n ((l.take k).map Rp.say) = ((f1, f2, f3), xs) := ⟨_, _, _, _, rfl⟩
    rw [hb] at hlen
    refine ⟨n, f1, f2, f3, k, xs, 0, hlen, by omega, fun w w' e hp => ?_⟩
    obtain ⟨hbel, ⟨hp0, _⟩ | ⟨_, A', c', he, hs⟩⟩ := hp
    · rw [h] at hp0; exact absurd rfl hp0
    · rw [h] at he hs
      simp only at he hs
      rw [hb] at he hs
      exact ⟨A', c', he, hs, hbel⟩
  · refine ⟨0, 0, 0, 0, 0, [], er, rfl, by omega, fun w w' e hp => ?_⟩
    obtain ⟨hbel, ⟨_, he⟩ | ⟨hp0, _⟩⟩ := hp
    · rw [h] at he
      exact ⟨none, 0, he, Strs.nil _ _, hbel⟩
    · rw [h] at hp0; exact absurd hp0 h0
set_option maxHeartbeats 16000000 in
theorem tells_few1 (code a b c : Int) (A : Option Addr) (m cp : Nat) (t : List ByteArray) (hm : t.length = m) (B : Option Addr) (n cq : Nat) (u : List ByteArray) (hn : u.length = n) (w : World) (hE : Env w) (hS : Strs w A t) (hU : Strs w B u) (hl : m ≤ 9223372036854775807) (hs : ∀ s ∈ t, s.size ≤ 9223372036854775807) (hl2 : n ≤ 9223372036854775807) (hs2 : ∀ s ∈ u, s.size ≤ 9223372036854775807) (a0 : -9223372036854775808 ≤ a) (a1 : a ≤ 9223372036854775807) (b0 : -9223372036854775808 ≤ b) (b1 : b ≤ 9223372036854775807) (c0 : -9223372036854775808 ≤ c) (c1 : c ≤ 9223372036854775807) (d0 : -9223372036854775808 ≤ code) (d1 : code ≤ 9223372036854775807) (hg : Rp.few u = false) :
    Calls Tryd.prog 3 #[.slice B n cq, .agg #[.int .i64 code, .int .i64 a, .int .i64 b, .int .i64 c, .slice A m cp]] w fun e w' => e = .returned (.bool true) ∧ Below w.heap.size w w' := by
  have Hs := Aside.mk hs
  have Hs2 := Aside.mk hs2
  have K : Aside (Kp w [(w.heap.size, #[.int .i64 code, .int .i64 a, .int .i64 b, .int .i64 c, .slice A m cp], 25)] [(B, u), (A, t)] (w.alloc (.cells #[.int .i64 code, .int .i64 a, .int .i64 b, .int .i64 c, .slice A m cp] 25))) := ⟨(((Kp.start w).str hS).str hU).blk #[.int .i64 code, .int .i64 a, .int .i64 b, .int .i64 c, .slice A m cp] 25⟩
  clear hS hs hU hs2
  go_enter Tryd.func3, Tryd.ntmps3
  go_wp2_with (first | (go_at_call 8; (with_reducible refine (awake_any _ (hE.next K.out.low)).mono ?_); rintro e w1 ⟨rfl, hb⟩; replace K := Aside.mk (K.out.next hb); clear hb; (try clear z0); (try clear z1); (try clear z2); (try clear z3); (try clear z4); (try clear zl); have z0 := Blk.cell (K.out.own _ (List.mem_cons_self ..)) 0 _ rfl; have z1 := Blk.cell (K.out.own _ (List.mem_cons_self ..)) 1 _ rfl; have z2 := Blk.cell (K.out.own _ (List.mem_cons_self ..)) 2 _ rfl; have z3 := Blk.cell (K.out.own _ (List.mem_cons_self ..)) 3 _ rfl; have z4 := Blk.cell (K.out.own _ (List.mem_cons_self ..)) 4 _ rfl; have zl := Blk.lt (K.out.own _ (List.mem_cons_self ..))) | (go_at_call 9; (with_reducible refine (few_m B n cq u hn _ (K.out.textm (by simp)) hl2 Hs2.out false hg).mono ?_); rintro e w' ⟨rfl, hw⟩; have hw' := hw.symm; clear hw; subst hw'))
  go_ret
  exact ⟨rfl, K.out.low⟩
set_option maxHeartbeats 16000000 in
theorem tells_few2 (code a b c : Int) (A : Option Addr) (m cp : Nat) (t : List ByteArray) (hm : t.length = m) (B : Option Addr) (n cq : Nat) (u : List ByteArray) (hn : u.length = n) (w : World) (hE : Env w) (hS : Strs w A t) (hU : Strs w B u) (hl : m ≤ 9223372036854775807) (hs : ∀ s ∈ t, s.size ≤ 9223372036854775807) (hl2 : n ≤ 9223372036854775807) (hs2 : ∀ s ∈ u, s.size ≤ 9223372036854775807) (a0 : -9223372036854775808 ≤ a) (a1 : a ≤ 9223372036854775807) (b0 : -9223372036854775808 ≤ b) (b1 : b ≤ 9223372036854775807) (c0 : -9223372036854775808 ≤ c) (c1 : c ≤ 9223372036854775807) (d0 : -9223372036854775808 ≤ code) (d1 : code ≤ 9223372036854775807) (hg : Rp.few u = true) (hf : Rp.few t = false) :
    Calls Tryd.prog 3 #[.slice B n cq, .agg #[.int .i64 code, .int .i64 a, .int .i64 b, .int .i64 c, .slice A m cp]] w fun e w' => e = .returned (.bool true) ∧ Below w.heap.size w w' := by
  have Hs := Aside.mk hs
  have Hs2 := Aside.mk hs2
  have K : Aside (Kp w [(w.heap.size, #[.int .i64 code, .int .i64 a, .int .i64 b, .int .i64 c, .slice A m cp], 25)] [(B, u), (A, t)] (w.alloc (.cells #[.int .i64 code, .int .i64 a, .int .i64 b, .int .i64 c, .slice A m cp] 25))) := ⟨(((Kp.start w).str hS).str hU).blk #[.int .i64 code, .int .i64 a, .int .i64 b, .int .i64 c, .slice A m cp] 25⟩
  clear hS hs hU hs2
  go_enter Tryd.func3, Tryd.ntmps3
  go_wp2_with (first | (go_at_call 8; (with_reducible refine (awake_any _ (hE.next K.out.low)).mono ?_); rintro e w1 ⟨rfl, hb⟩; replace K := Aside.mk (K.out.next hb); clear hb; (try clear z0); (try clear z1); (try clear z2); (try clear z3); (try clear z4); (try clear zl); have z0 := Blk.cell (K.out.own _ (List.mem_cons_self ..)) 0 _ rfl; have z1 := Blk.cell (K.out.own _ (List.mem_cons_self ..)) 1 _ rfl; have z2 := Blk.cell (K.out.own _ (List.mem_cons_self ..)) 2 _ rfl; have z3 := Blk.cell (K.out.own _ (List.mem_cons_self ..)) 3 _ rfl; have z4 := Blk.cell (K.out.own _ (List.mem_cons_self ..)) 4 _ rfl; have zl := Blk.lt (K.out.own _ (List.mem_cons_self ..))) | (go_at_call 9; (with_reducible refine (few_m B n cq u hn _ (K.out.textm (by simp)) hl2 Hs2.out true hg).mono ?_); rintro e w' ⟨rfl, hw⟩; have hw' := hw.symm; clear hw; subst hw') | (go_at_call 9; (with_reducible refine (few_m A m cp t hm _ (K.out.textm (by simp)) hl Hs.out false hf).mono ?_); rintro e w' ⟨rfl, hw⟩; have hw' := hw.symm; clear hw; subst hw'))
  go_ret
  exact ⟨rfl, K.out.low⟩
set_option maxHeartbeats 16000000 in
theorem tells_in (code a b c : Int) (A : Option Addr) (m cp : Nat) (t : List ByteArray) (hm : t.length = m) (B : Option Addr) (n cq : Nat) (u : List ByteArray) (hn : u.length = n) (w : World) (hE : Env w) (hS : Strs w A t) (hU : Strs w B u) (hl : m ≤ 9223372036854775807) (hs : ∀ s ∈ t, s.size ≤ 9223372036854775807) (hl2 : n ≤ 9223372036854775807) (hs2 : ∀ s ∈ u, s.size ≤ 9223372036854775807) (a0 : -9223372036854775808 ≤ a) (a1 : a ≤ 9223372036854775807) (b0 : -9223372036854775808 ≤ b) (b1 : b ≤ 9223372036854775807) (c0 : -9223372036854775808 ≤ c) (c1 : c ≤ 9223372036854775807) (d0 : -9223372036854775808 ≤ code) (d1 : code ≤ 9223372036854775807) (hg : Rp.few u = true) (hf : Rp.few t = true) (x0 x1 x2 x3 : Int) (kx : Nat) (xs : List ByteArray) (er : Int) (hxl : xs.length = kx) (hkx : kx ≤ 1000)
    (hps : ∀ W A1 cp1, Env W → Strs W A1 u → Calls Tryd.prog 10 #[.slice A1 n cp1] W fun e w' => ∃ A' c', e = .returned (.tuple #[.agg #[.int .i64 x0, .int .i64 x1, .int .i64 x2, .int .i64 x3, .slice A' kx c'], .int .i64 kx, .int .i64 er]) ∧ Strs w' A' xs ∧ Below W.heap.size W w')
    (hrps : ∀ W, Strs W B u → Calls Tryd.prog 11 #[.slice B n cq] W fun e w' => ∃ A' c', e = .returned (.tuple #[.agg #[.int .i64 x0, .int .i64 x1, .int .i64 x2, .int .i64 x3, .slice A' kx c'], .int .i64 kx, .int .i64 er]) ∧ Strs w' A' xs ∧ Below W.heap.size W w')
    (pn : Nat) (ps : List ByteArray) (ep : Int) (hpl : ps.length = pn) (hpn : pn ≤ 1000)
    (hpr : ∀ W, Env W → Strs W A t → Calls Tryd.prog 12 #[.agg #[.int .i64 code, .int .i64 a, .int .i64 b, .int .i64 c, .slice A m cp]] W fun e w' => ∃ A' c', e = .returned (.tuple #[.slice A' pn c', .int .i64 ep]) ∧ Strs w' A' ps ∧ Below W.heap.size W w')
    (hrpr : ∀ W, Strs W A t → Calls Tryd.prog 13 #[.agg #[.int .i64 code, .int .i64 a, .int .i64 b, .int .i64 c, .slice A m cp]] W fun e w' => ∃ A' c', e = .returned (.tuple #[.slice A' pn c', .int .i64 ep]) ∧ Strs w' A' ps ∧ Below W.heap.size W w') :
    Calls Tryd.prog 3 #[.slice B n cq, .agg #[.int .i64 code, .int .i64 a, .int .i64 b, .int .i64 c, .slice A m cp]] w fun e w' => e = .returned (.bool true) ∧ Below w.heap.size w w' := by
  have Hs := Aside.mk hs
  have Hs2 := Aside.mk hs2
  have K : Aside (Kp w [(w.heap.size, #[.int .i64 code, .int .i64 a, .int .i64 b, .int .i64 c, .slice A m cp], 25)] [(B, u), (A, t)] (w.alloc (.cells #[.int .i64 code, .int .i64 a, .int .i64 b, .int .i64 c, .slice A m cp] 25))) := ⟨(((Kp.start w).str hS).str hU).blk #[.int .i64 code, .int .i64 a, .int .i64 b, .int .i64 c, .slice A m cp] 25⟩
  clear hS hs hU hs2
  have h60 := (Rp.few_len hf).1
  have Hz := Aside.mk (fun s h => Nat.le_trans ((Rp.few_len hf).2 s h) (by decide : 1000 ≤ 140737488351232))
  have Hy := Aside.mk (fun s h => Nat.le_trans ((Rp.few_len hf).2 s h) (by decide : 1000 ≤ 1000000))
  have h60u := (Rp.few_len hg).1
  rw [hm] at h60
  rw [hn] at h60u
  have e1 : ((kx : Int) == (kx : Int)) = true := by simp
  have e2 : (kx == kx) = true := by simp
  have e3 : (er == er) = true := by simp
  have e4 : (ep == ep) = true := by simp
  have e5 : (Rp.right code a b c t == Rp.right code a b c t) = true := by simp
  have e6 : (Rp.cls code == Rp.cls code) = true := by simp
  go_enter Tryd.func3, Tryd.ntmps3
  go_wp2_with (first | (go_at_call 8; (with_reducible refine (awake_any _ (hE.next K.out.low)).mono ?_); rintro e w1 ⟨rfl, hb⟩; replace K := Aside.mk (K.out.next hb); clear hb; (try clear z0); (try clear z1); (try clear z2); (try clear z3); (try clear z4); (try clear zl); have z0 := Blk.cell (K.out.own _ (List.mem_cons_self ..)) 0 _ rfl; have z1 := Blk.cell (K.out.own _ (List.mem_cons_self ..)) 1 _ rfl; have z2 := Blk.cell (K.out.own _ (List.mem_cons_self ..)) 2 _ rfl; have z3 := Blk.cell (K.out.own _ (List.mem_cons_self ..)) 3 _ rfl; have z4 := Blk.cell (K.out.own _ (List.mem_cons_self ..)) 4 _ rfl; have zl := Blk.lt (K.out.own _ (List.mem_cons_self ..))) | (go_at_call 9; (with_reducible refine (few_m B n cq u hn _ (K.out.textm (by simp)) hl2 Hs2.out true hg).mono ?_); rintro e w' ⟨rfl, hw⟩; have hw' := hw.symm; clear hw; subst hw') | (go_at_call 9; (with_reducible refine (few_m A m cp t hm _ (K.out.textm (by simp)) hl Hs.out true hf).mono ?_); rintro e w' ⟨rfl, hw⟩; have hw' := hw.symm; clear hw; subst hw') | (at_builtin; refine app_copy rfl _ _ rfl (W0 := w1) ((Below.refl _ _).alloc (Nat.le_refl _) _) _ 0 0 [] rfl (by rfl) (Row.lit1 (Below.refl _ _)) B n cq (by rfl) u hn ((K.out.alloc _).textm (by simp)) (by omega) n (by omega) u (by simp) ?_; intro A2 c2 w2 hr hs2 hb; replace K := Aside.mk ((K.out.next hb).str hs2); clear hr hs2 hb; (try clear z0); (try clear z1); (try clear z2); (try clear z3); (try clear z4); (try clear zl); have z0 := Blk.cell (K.out.own _ (List.mem_cons_self ..)) 0 _ rfl; have z1 := Blk.cell (K.out.own _ (List.mem_cons_self ..)) 1 _ rfl; have z2 := Blk.cell (K.out.own _ (List.mem_cons_self ..)) 2 _ rfl; have z3 := Blk.cell (K.out.own _ (List.mem_cons_self ..)) 3 _ rfl; have z4 := Blk.cell (K.out.own _ (List.mem_cons_self ..)) 4 _ rfl; have zl := Blk.lt (K.out.own _ (List.mem_cons_self ..))) | (go_at_call 10; (with_reducible refine (hps _ _ _ (hE.next K.out.low) (K.out.textm (by simp))).mono ?_); rintro e w3 ⟨Ax, cx, rfl, hs3, hb⟩; replace K := Aside.mk (((K.out.next hb).str hs3).blk #[.int .i64 x0, .int .i64 x1, .int .i64 x2, .int .i64 x3, .slice Ax kx cx] 25); clear hb hs3; (try clear z0); (try clear z1); (try clear z2); (try clear z3); (try clear z4); (try clear zl)) | (go_at_call 11; (with_reducible refine (hrps _ (K.out.textm (by simp))).mono ?_); rintro e w4 ⟨Ay, cy, rfl, hs4, hb⟩; replace K := Aside.mk (((K.out.next hb).str hs4).blk #[.int .i64 x0, .int .i64 x1, .int .i64 x2, .int .i64 x3, .slice Ay kx cy] 25); clear hb hs4; (try clear z0); (try clear z1); (try clear z2); (try clear z3); (try clear z4); (try clear zl); have z0 := Blk.cell (K.out.own _ (List.mem_cons_of_mem _ (List.mem_cons_of_mem _ (List.mem_cons_self ..)))) 0 _ rfl; have z1 := Blk.cell (K.out.own _ (List.mem_cons_of_mem _ (List.mem_cons_of_mem _ (List.mem_cons_self ..)))) 1 _ rfl; have z2 := Blk.cell (K.out.own _ (List.mem_cons_of_mem _ (List.mem_cons_of_mem _ (List.mem_cons_self ..)))) 2 _ rfl; have z3 := Blk.cell (K.out.own _ (List.mem_cons_of_mem _ (List.mem_cons_of_mem _ (List.mem_cons_self ..)))) 3 _ rfl; have z4 := Blk.cell (K.out.own _ (List.mem_cons_of_mem _ (List.mem_cons_of_mem _ (List.mem_cons_self ..)))) 4 _ rfl; have zl := Blk.lt (K.out.own _ (List.mem_cons_of_mem _ (List.mem_cons_of_mem _ (List.mem_cons_self ..))))) | (go_at_call 12; (with_reducible refine (hpr _ (hE.next K.out.low) (K.out.textm (by simp))).mono ?_); rintro e w5 ⟨Aa, ca, rfl, hs5, hb⟩; replace K := Aside.mk ((K.out.next hb).str hs5); clear hb hs5; (try clear z0); (try clear z1); (try clear z2); (try clear z3); (try clear z4); (try clear zl); have z0 := Blk.cell (K.out.own _ (List.mem_cons_of_mem _ (List.mem_cons_of_mem _ (List.mem_cons_self ..)))) 0 _ rfl; have z1 := Blk.cell (K.out.own _ (List.mem_cons_of_mem _ (List.mem_cons_of_mem _ (List.mem_cons_self ..)))) 1 _ rfl; have z2 := Blk.cell (K.out.own _ (List.mem_cons_of_mem _ (List.mem_cons_of_mem _ (List.mem_cons_self ..)))) 2 _ rfl; have z3 := Blk.cell (K.out.own _ (List.mem_cons_of_mem _ (List.mem_cons_of_mem _ (List.mem_cons_self ..)))) 3 _ rfl; have z4 := Blk.cell (K.out.own _ (List.mem_cons_of_mem _ (List.mem_cons_of_mem _ (List.mem_cons_self ..)))) 4 _ rfl; have zl := Blk.lt (K.out.own _ (List.mem_cons_of_mem _ (List.mem_cons_of_mem _ (List.mem_cons_self ..))))) | (go_at_call 13; (with_reducible refine (hrpr _ (K.out.textm (by simp))).mono ?_); rintro e w6 ⟨Ab, cb, rfl, hs6, hb⟩; replace K := Aside.mk ((K.out.next hb).str hs6); clear hb hs6))
  refine region_class (C := (fun w' => Kp w [(w4.heap.size, #[.int .i64 x0, .int .i64 x1, .int .i64 x2, .int .i64 x3, .slice Ay kx cy], 25), (w3.heap.size, #[.int .i64 x0, .int .i64 x1, .int .i64 x2, .int .i64 x3, .slice Ax kx cx], 25), (w.heap.size, #[.int .i64 code, .int .i64 a, .int .i64 b, .int .i64 c, .slice A m cp], 25)] [(Ab, ps), (Aa, ps), (Ay, xs), (Ax, xs), (A2, u), (B, u), (A, t)] w')) (by kernel_rfl) (by kernel_rfl) K.out.drew ?_
  refine q_row ?_ _ _ rfl w3.heap.size 0 ?_ [.int .i64 x0, .int .i64 x1, .int .i64 x2, .int .i64 x3, .slice Ax kx cx] _ ?_ Tryd.underlying25 rfl (by kernel_rfl) ?_
  · kernel_rfl
  · rfl
  · intro w_ hw_
    have cy0_ := Blk.cell (hw_.own _ (List.mem_cons_self ..)) 0 _ rfl
    have cy1_ := Blk.cell (hw_.own _ (List.mem_cons_self ..)) 1 _ rfl
    have cy2_ := Blk.cell (hw_.own _ (List.mem_cons_self ..)) 2 _ rfl
    have cy3_ := Blk.cell (hw_.own _ (List.mem_cons_self ..)) 3 _ rfl
    have cy4_ := Blk.cell (hw_.own _ (List.mem_cons_self ..)) 4 _ rfl
    have cyl_ := Blk.lt (hw_.own _ (List.mem_cons_self ..))
    have cx0_ := Blk.cell (hw_.own _ (List.mem_cons_of_mem _ (List.mem_cons_self ..))) 0 _ rfl
    have cx1_ := Blk.cell (hw_.own _ (List.mem_cons_of_mem _ (List.mem_cons_self ..))) 1 _ rfl
    have cx2_ := Blk.cell (hw_.own _ (List.mem_cons_of_mem _ (List.mem_cons_self ..))) 2 _ rfl
    have cx3_ := Blk.cell (hw_.own _ (List.mem_cons_of_mem _ (List.mem_cons_self ..))) 3 _ rfl
    have cx4_ := Blk.cell (hw_.own _ (List.mem_cons_of_mem _ (List.mem_cons_self ..))) 4 _ rfl
    have cxl_ := Blk.lt (hw_.own _ (List.mem_cons_of_mem _ (List.mem_cons_self ..)))
    have cr0_ := Blk.cell (hw_.own _ (List.mem_cons_of_mem _ (List.mem_cons_of_mem _ (List.mem_cons_self ..)))) 0 _ rfl
    have cr1_ := Blk.cell (hw_.own _ (List.mem_cons_of_mem _ (List.mem_cons_of_mem _ (List.mem_cons_self ..)))) 1 _ rfl
    have cr2_ := Blk.cell (hw_.own _ (List.mem_cons_of_mem _ (List.mem_cons_of_mem _ (List.mem_cons_self ..)))) 2 _ rfl
    have cr3_ := Blk.cell (hw_.own _ (List.mem_cons_of_mem _ (List.mem_cons_of_mem _ (List.mem_cons_self ..)))) 3 _ rfl
    have cr4_ := Blk.cell (hw_.own _ (List.mem_cons_of_mem _ (List.mem_cons_of_mem _ (List.mem_cons_self ..)))) 4 _ rfl
    have crl_ := Blk.lt (hw_.own _ (List.mem_cons_of_mem _ (List.mem_cons_of_mem _ (List.mem_cons_self ..))))
    intro j_ v_ hv_
    match j_, hv_ with
    | 0, hv_ => (simp at hv_; subst hv_; first | assumption | (simpa using c0))
    | 1, hv_ => (simp at hv_; subst hv_; first | assumption | (simpa using c1))
    | 2, hv_ => (simp at hv_; subst hv_; first | assumption | (simpa using c2))
    | 3, hv_ => (simp at hv_; subst hv_; first | assumption | (simpa using c3))
    | 4, hv_ => (simp at hv_; subst hv_; first | assumption | (simpa using c4))
  try simp only [Act.put, List.setIfInBounds_toArray, List.set_cons_zero, List.set_cons_succ]
  try simp only [e1, e2, e3, e4, e5, e6]
  refine q_row ?_ _ _ rfl w4.heap.size 0 ?_ [.int .i64 x0, .int .i64 x1, .int .i64 x2, .int .i64 x3, .slice Ay kx cy] _ ?_ Tryd.underlying25 rfl (by kernel_rfl) ?_
  · kernel_rfl
  · rfl
  · intro w_ hw_
    have cy0_ := Blk.cell (hw_.own _ (List.mem_cons_self ..)) 0 _ rfl
    have cy1_ := Blk.cell (hw_.own _ (List.mem_cons_self ..)) 1 _ rfl
    have cy2_ := Blk.cell (hw_.own _ (List.mem_cons_self ..)) 2 _ rfl
    have cy3_ := Blk.cell (hw_.own _ (List.mem_cons_self ..)) 3 _ rfl
    have cy4_ := Blk.cell (hw_.own _ (List.mem_cons_self ..)) 4 _ rfl
    have cyl_ := Blk.lt (hw_.own _ (List.mem_cons_self ..))
    have cx0_ := Blk.cell (hw_.own _ (List.mem_cons_of_mem _ (List.mem_cons_self ..))) 0 _ rfl
    have cx1_ := Blk.cell (hw_.own _ (List.mem_cons_of_mem _ (List.mem_cons_self ..))) 1 _ rfl
    have cx2_ := Blk.cell (hw_.own _ (List.mem_cons_of_mem _ (List.mem_cons_self ..))) 2 _ rfl
    have cx3_ := Blk.cell (hw_.own _ (List.mem_cons_of_mem _ (List.mem_cons_self ..))) 3 _ rfl
    have cx4_ := Blk.cell (hw_.own _ (List.mem_cons_of_mem _ (List.mem_cons_self ..))) 4 _ rfl
    have cxl_ := Blk.lt (hw_.own _ (List.mem_cons_of_mem _ (List.mem_cons_self ..)))
    have cr0_ := Blk.cell (hw_.own _ (List.mem_cons_of_mem _ (List.mem_cons_of_mem _ (List.mem_cons_self ..)))) 0 _ rfl
    have cr1_ := Blk.cell (hw_.own _ (List.mem_cons_of_mem _ (List.mem_cons_of_mem _ (List.mem_cons_self ..)))) 1 _ rfl
    have cr2_ := Blk.cell (hw_.own _ (List.mem_cons_of_mem _ (List.mem_cons_of_mem _ (List.mem_cons_self ..)))) 2 _ rfl
    have cr3_ := Blk.cell (hw_.own _ (List.mem_cons_of_mem _ (List.mem_cons_of_mem _ (List.mem_cons_self ..)))) 3 _ rfl
    have cr4_ := Blk.cell (hw_.own _ (List.mem_cons_of_mem _ (List.mem_cons_of_mem _ (List.mem_cons_self ..)))) 4 _ rfl
    have crl_ := Blk.lt (hw_.own _ (List.mem_cons_of_mem _ (List.mem_cons_of_mem _ (List.mem_cons_self ..))))
    intro j_ v_ hv_
    match j_, hv_ with
    | 0, hv_ => (simp at hv_; subst hv_; first | assumption | (simpa using c0))
    | 1, hv_ => (simp at hv_; subst hv_; first | assumption | (simpa using c1))
    | 2, hv_ => (simp at hv_; subst hv_; first | assumption | (simpa using c2))
    | 3, hv_ => (simp at hv_; subst hv_; first | assumption | (simpa using c3))
    | 4, hv_ => (simp at hv_; subst hv_; first | assumption | (simpa using c4))
  try simp only [Act.put, List.setIfInBounds_toArray, List.set_cons_zero, List.set_cons_succ]
  try simp only [e1, e2, e3, e4, e5, e6]
  refine q_call ?_ (.bool true) ?_ ?_ ?_ ?_ ?_
  · kernel_rfl
  rotate_left 2
  · intro w_ hw_
    go_simp
    refine ⟨?_, ?_⟩ <;> with_reducible rfl
  · intro w_ hw_
    have cy0_ := Blk.cell (hw_.own _ (List.mem_cons_self ..)) 0 _ rfl
    have cy1_ := Blk.cell (hw_.own _ (List.mem_cons_self ..)) 1 _ rfl
    have cy2_ := Blk.cell (hw_.own _ (List.mem_cons_self ..)) 2 _ rfl
    have cy3_ := Blk.cell (hw_.own _ (List.mem_cons_self ..)) 3 _ rfl
    have cy4_ := Blk.cell (hw_.own _ (List.mem_cons_self ..)) 4 _ rfl
    have cyl_ := Blk.lt (hw_.own _ (List.mem_cons_self ..))
    have cx0_ := Blk.cell (hw_.own _ (List.mem_cons_of_mem _ (List.mem_cons_self ..))) 0 _ rfl
    have cx1_ := Blk.cell (hw_.own _ (List.mem_cons_of_mem _ (List.mem_cons_self ..))) 1 _ rfl
    have cx2_ := Blk.cell (hw_.own _ (List.mem_cons_of_mem _ (List.mem_cons_self ..))) 2 _ rfl
    have cx3_ := Blk.cell (hw_.own _ (List.mem_cons_of_mem _ (List.mem_cons_self ..))) 3 _ rfl
    have cx4_ := Blk.cell (hw_.own _ (List.mem_cons_of_mem _ (List.mem_cons_self ..))) 4 _ rfl
    have cxl_ := Blk.lt (hw_.own _ (List.mem_cons_of_mem _ (List.mem_cons_self ..)))
    have cr0_ := Blk.cell (hw_.own _ (List.mem_cons_of_mem _ (List.mem_cons_of_mem _ (List.mem_cons_self ..)))) 0 _ rfl
    have cr1_ := Blk.cell (hw_.own _ (List.mem_cons_of_mem _ (List.mem_cons_of_mem _ (List.mem_cons_self ..)))) 1 _ rfl
    have cr2_ := Blk.cell (hw_.own _ (List.mem_cons_of_mem _ (List.mem_cons_of_mem _ (List.mem_cons_self ..)))) 2 _ rfl
    have cr3_ := Blk.cell (hw_.own _ (List.mem_cons_of_mem _ (List.mem_cons_of_mem _ (List.mem_cons_self ..)))) 3 _ rfl
    have cr4_ := Blk.cell (hw_.own _ (List.mem_cons_of_mem _ (List.mem_cons_of_mem _ (List.mem_cons_self ..)))) 4 _ rfl
    have crl_ := Blk.lt (hw_.own _ (List.mem_cons_of_mem _ (List.mem_cons_of_mem _ (List.mem_cons_self ..))))
    exact (same_s x0 x1 x2 x3 Ax Ay kx cx cy xs hxl _ (hw_.textm (by simp)) (hw_.textm (by simp)) (by omega)).mono fun _ _ ⟨h1_, h2_⟩ => ⟨h1_, hw_.next h2_⟩
  try simp only [Act.put, List.setIfInBounds_toArray, List.set_cons_zero, List.set_cons_succ]
  try simp only [e1, e2, e3, e4, e5, e6]
  refine q_run ?_ ?_ ?_ ?_
  · kernel_rfl
  rotate_left
  · intro w_ hw_
    have cy0_ := Blk.cell (hw_.own _ (List.mem_cons_self ..)) 0 _ rfl
    have cy1_ := Blk.cell (hw_.own _ (List.mem_cons_self ..)) 1 _ rfl
    have cy2_ := Blk.cell (hw_.own _ (List.mem_cons_self ..)) 2 _ rfl
    have cy3_ := Blk.cell (hw_.own _ (List.mem_cons_self ..)) 3 _ rfl
    have cy4_ := Blk.cell (hw_.own _ (List.mem_cons_self ..)) 4 _ rfl
    have cyl_ := Blk.lt (hw_.own _ (List.mem_cons_self ..))
    have cx0_ := Blk.cell (hw_.own _ (List.mem_cons_of_mem _ (List.mem_cons_self ..))) 0 _ rfl
    have cx1_ := Blk.cell (hw_.own _ (List.mem_cons_of_mem _ (List.mem_cons_self ..))) 1 _ rfl
    have cx2_ := Blk.cell (hw_.own _ (List.mem_cons_of_mem _ (List.mem_cons_self ..))) 2 _ rfl
    have cx3_ := Blk.cell (hw_.own _ (List.mem_cons_of_mem _ (List.mem_cons_self ..))) 3 _ rfl
    have cx4_ := Blk.cell (hw_.own _ (List.mem_cons_of_mem _ (List.mem_cons_self ..))) 4 _ rfl
    have cxl_ := Blk.lt (hw_.own _ (List.mem_cons_of_mem _ (List.mem_cons_self ..)))
    have cr0_ := Blk.cell (hw_.own _ (List.mem_cons_of_mem _ (List.mem_cons_of_mem _ (List.mem_cons_self ..)))) 0 _ rfl
    have cr1_ := Blk.cell (hw_.own _ (List.mem_cons_of_mem _ (List.mem_cons_of_mem _ (List.mem_cons_self ..)))) 1 _ rfl
    have cr2_ := Blk.cell (hw_.own _ (List.mem_cons_of_mem _ (List.mem_cons_of_mem _ (List.mem_cons_self ..)))) 2 _ rfl
    have cr3_ := Blk.cell (hw_.own _ (List.mem_cons_of_mem _ (List.mem_cons_of_mem _ (List.mem_cons_self ..)))) 3 _ rfl
    have cr4_ := Blk.cell (hw_.own _ (List.mem_cons_of_mem _ (List.mem_cons_of_mem _ (List.mem_cons_self ..)))) 4 _ rfl
    have crl_ := Blk.lt (hw_.own _ (List.mem_cons_of_mem _ (List.mem_cons_of_mem _ (List.mem_cons_self ..))))
    first | (go_simp; done) | (go_simp; with_reducible rfl) | (go_simp; rw [if_neg (by first | omega | (simp; omega))])
  try simp only [Act.put, List.setIfInBounds_toArray, List.set_cons_zero, List.set_cons_succ]
  try simp only [e1, e2, e3, e4, e5, e6]
  first
   | (refine q_skip ?_ ?_
      · rfl)
   | (refine q_row ?_ _ _ rfl w3.heap.size 0 ?_ [.int .i64 x0, .int .i64 x1, .int .i64 x2, .int .i64 x3, .slice Ax kx cx] _ ?_ Tryd.underlying25 rfl (by kernel_rfl) ?_
      · kernel_rfl
      · rfl
      · intro w_ hw_
        have cy0_ := Blk.cell (hw_.own _ (List.mem_cons_self ..)) 0 _ rfl
        have cy1_ := Blk.cell (hw_.own _ (List.mem_cons_self ..)) 1 _ rfl
        have cy2_ := Blk.cell (hw_.own _ (List.mem_cons_self ..)) 2 _ rfl
        have cy3_ := Blk.cell (hw_.own _ (List.mem_cons_self ..)) 3 _ rfl
        have cy4_ := Blk.cell (hw_.own _ (List.mem_cons_self ..)) 4 _ rfl
        have cyl_ := Blk.lt (hw_.own _ (List.mem_cons_self ..))
        have cx0_ := Blk.cell (hw_.own _ (List.mem_cons_of_mem _ (List.mem_cons_self ..))) 0 _ rfl
        have cx1_ := Blk.cell (hw_.own _ (List.mem_cons_of_mem _ (List.mem_cons_self ..))) 1 _ rfl
        have cx2_ := Blk.cell (hw_.own _ (List.mem_cons_of_mem _ (List.mem_cons_self ..))) 2 _ rfl
        have cx3_ := Blk.cell (hw_.own _ (List.mem_cons_of_mem _ (List.mem_cons_self ..))) 3 _ rfl
        have cx4_ := Blk.cell (hw_.own _ (List.mem_cons_of_mem _ (List.mem_cons_self ..))) 4 _ rfl
        have cxl_ := Blk.lt (hw_.own _ (List.mem_cons_of_mem _ (List.mem_cons_self ..)))
        have cr0_ := Blk.cell (hw_.own _ (List.mem_cons_of_mem _ (List.mem_cons_of_mem _ (List.mem_cons_self ..)))) 0 _ rfl
        have cr1_ := Blk.cell (hw_.own _ (List.mem_cons_of_mem _ (List.mem_cons_of_mem _ (List.mem_cons_self ..)))) 1 _ rfl
        have cr2_ := Blk.cell (hw_.own _ (List.mem_cons_of_mem _ (List.mem_cons_of_mem _ (List.mem_cons_self ..)))) 2 _ rfl
        have cr3_ := Blk.cell (hw_.own _ (List.mem_cons_of_mem _ (List.mem_cons_of_mem _ (List.mem_cons_self ..)))) 3 _ rfl
        have cr4_ := Blk.cell (hw_.own _ (List.mem_cons_of_mem _ (List.mem_cons_of_mem _ (List.mem_cons_self ..)))) 4 _ rfl
        have crl_ := Blk.lt (hw_.own _ (List.mem_cons_of_mem _ (List.mem_cons_of_mem _ (List.mem_cons_self ..))))
        intro j_ v_ hv_
        match j_, hv_ with
        | 0, hv_ => (simp at hv_; subst hv_; first | assumption | (simpa using c0))
        | 1, hv_ => (simp at hv_; subst hv_; first | assumption | (simpa using c1))
        | 2, hv_ => (simp at hv_; subst hv_; first | assumption | (simpa using c2))
        | 3, hv_ => (simp at hv_; subst hv_; first | assumption | (simpa using c3))
        | 4, hv_ => (simp at hv_; subst hv_; first | assumption | (simpa using c4)))
  try simp only [Act.put, List.setIfInBounds_toArray, List.set_cons_zero, List.set_cons_succ]
  try simp only [e1, e2, e3, e4, e5, e6]
  first
   | (refine q_skip ?_ ?_
      · rfl)
   | (refine q_row ?_ _ _ rfl w4.heap.size 0 ?_ [.int .i64 x0, .int .i64 x1, .int .i64 x2, .int .i64 x3, .slice Ay kx cy] _ ?_ Tryd.underlying25 rfl (by kernel_rfl) ?_
      · kernel_rfl
      · rfl
      · intro w_ hw_
        have cy0_ := Blk.cell (hw_.own _ (List.mem_cons_self ..)) 0 _ rfl
        have cy1_ := Blk.cell (hw_.own _ (List.mem_cons_self ..)) 1 _ rfl
        have cy2_ := Blk.cell (hw_.own _ (List.mem_cons_self ..)) 2 _ rfl
        have cy3_ := Blk.cell (hw_.own _ (List.mem_cons_self ..)) 3 _ rfl
        have cy4_ := Blk.cell (hw_.own _ (List.mem_cons_self ..)) 4 _ rfl
        have cyl_ := Blk.lt (hw_.own _ (List.mem_cons_self ..))
        have cx0_ := Blk.cell (hw_.own _ (List.mem_cons_of_mem _ (List.mem_cons_self ..))) 0 _ rfl
        have cx1_ := Blk.cell (hw_.own _ (List.mem_cons_of_mem _ (List.mem_cons_self ..))) 1 _ rfl
        have cx2_ := Blk.cell (hw_.own _ (List.mem_cons_of_mem _ (List.mem_cons_self ..))) 2 _ rfl
        have cx3_ := Blk.cell (hw_.own _ (List.mem_cons_of_mem _ (List.mem_cons_self ..))) 3 _ rfl
        have cx4_ := Blk.cell (hw_.own _ (List.mem_cons_of_mem _ (List.mem_cons_self ..))) 4 _ rfl
        have cxl_ := Blk.lt (hw_.own _ (List.mem_cons_of_mem _ (List.mem_cons_self ..)))
        have cr0_ := Blk.cell (hw_.own _ (List.mem_cons_of_mem _ (List.mem_cons_of_mem _ (List.mem_cons_self ..)))) 0 _ rfl
        have cr1_ := Blk.cell (hw_.own _ (List.mem_cons_of_mem _ (List.mem_cons_of_mem _ (List.mem_cons_self ..)))) 1 _ rfl
        have cr2_ := Blk.cell (hw_.own _ (List.mem_cons_of_mem _ (List.mem_cons_of_mem _ (List.mem_cons_self ..)))) 2 _ rfl
        have cr3_ := Blk.cell (hw_.own _ (List.mem_cons_of_mem _ (List.mem_cons_of_mem _ (List.mem_cons_self ..)))) 3 _ rfl
        have cr4_ := Blk.cell (hw_.own _ (List.mem_cons_of_mem _ (List.mem_cons_of_mem _ (List.mem_cons_self ..)))) 4 _ rfl
        have crl_ := Blk.lt (hw_.own _ (List.mem_cons_of_mem _ (List.mem_cons_of_mem _ (List.mem_cons_self ..))))
        intro j_ v_ hv_
        match j_, hv_ with
        | 0, hv_ => (simp at hv_; subst hv_; first | assumption | (simpa using c0))
        | 1, hv_ => (simp at hv_; subst hv_; first | assumption | (simpa using c1))
        | 2, hv_ => (simp at hv_; subst hv_; first | assumption | (simpa using c2))
        | 3, hv_ => (simp at hv_; subst hv_; first | assumption | (simpa using c3))
        | 4, hv_ => (simp at hv_; subst hv_; first | assumption | (simpa using c4)))
  try simp only [Act.put, List.setIfInBounds_toArray, List.set_cons_zero, List.set_cons_succ]
  try simp only [e1, e2, e3, e4, e5, e6]
  first
   | (refine q_skip ?_ ?_
      · rfl)
   | (refine q_call ?_ (.bool true) ?_ ?_ ?_ ?_ ?_
      · kernel_rfl
      rotate_left 2
      · intro w_ hw_
        go_simp
        refine ⟨?_, ?_⟩ <;> with_reducible rfl
      · intro w_ hw_
        have cy0_ := Blk.cell (hw_.own _ (List.mem_cons_self ..)) 0 _ rfl
        have cy1_ := Blk.cell (hw_.own _ (List.mem_cons_self ..)) 1 _ rfl
        have cy2_ := Blk.cell (hw_.own _ (List.mem_cons_self ..)) 2 _ rfl
        have cy3_ := Blk.cell (hw_.own _ (List.mem_cons_self ..)) 3 _ rfl
        have cy4_ := Blk.cell (hw_.own _ (List.mem_cons_self ..)) 4 _ rfl
        have cyl_ := Blk.lt (hw_.own _ (List.mem_cons_self ..))
        have cx0_ := Blk.cell (hw_.own _ (List.mem_cons_of_mem _ (List.mem_cons_self ..))) 0 _ rfl
        have cx1_ := Blk.cell (hw_.own _ (List.mem_cons_of_mem _ (List.mem_cons_self ..))) 1 _ rfl
        have cx2_ := Blk.cell (hw_.own _ (List.mem_cons_of_mem _ (List.mem_cons_self ..))) 2 _ rfl
        have cx3_ := Blk.cell (hw_.own _ (List.mem_cons_of_mem _ (List.mem_cons_self ..))) 3 _ rfl
        have cx4_ := Blk.cell (hw_.own _ (List.mem_cons_of_mem _ (List.mem_cons_self ..))) 4 _ rfl
        have cxl_ := Blk.lt (hw_.own _ (List.mem_cons_of_mem _ (List.mem_cons_self ..)))
        have cr0_ := Blk.cell (hw_.own _ (List.mem_cons_of_mem _ (List.mem_cons_of_mem _ (List.mem_cons_self ..)))) 0 _ rfl
        have cr1_ := Blk.cell (hw_.own _ (List.mem_cons_of_mem _ (List.mem_cons_of_mem _ (List.mem_cons_self ..)))) 1 _ rfl
        have cr2_ := Blk.cell (hw_.own _ (List.mem_cons_of_mem _ (List.mem_cons_of_mem _ (List.mem_cons_self ..)))) 2 _ rfl
        have cr3_ := Blk.cell (hw_.own _ (List.mem_cons_of_mem _ (List.mem_cons_of_mem _ (List.mem_cons_self ..)))) 3 _ rfl
        have cr4_ := Blk.cell (hw_.own _ (List.mem_cons_of_mem _ (List.mem_cons_of_mem _ (List.mem_cons_self ..)))) 4 _ rfl
        have crl_ := Blk.lt (hw_.own _ (List.mem_cons_of_mem _ (List.mem_cons_of_mem _ (List.mem_cons_self ..))))
        exact (rsame_s x0 x1 x2 x3 Ax Ay kx cx cy xs hxl _ (hw_.textm (by simp)) (hw_.textm (by simp)) (by omega)).mono fun _ _ ⟨h1_, h2_⟩ => ⟨h1_, hw_.next h2_⟩)
  try simp only [Act.put, List.setIfInBounds_toArray, List.set_cons_zero, List.set_cons_succ]
  try simp only [e1, e2, e3, e4, e5, e6]
  refine q_run ?_ ?_ ?_ ?_
  · kernel_rfl
  rotate_left
  · intro w_ hw_
    have cy0_ := Blk.cell (hw_.own _ (List.mem_cons_self ..)) 0 _ rfl
    have cy1_ := Blk.cell (hw_.own _ (List.mem_cons_self ..)) 1 _ rfl
    have cy2_ := Blk.cell (hw_.own _ (List.mem_cons_self ..)) 2 _ rfl
    have cy3_ := Blk.cell (hw_.own _ (List.mem_cons_self ..)) 3 _ rfl
    have cy4_ := Blk.cell (hw_.own _ (List.mem_cons_self ..)) 4 _ rfl
    have cyl_ := Blk.lt (hw_.own _ (List.mem_cons_self ..))
    have cx0_ := Blk.cell (hw_.own _ (List.mem_cons_of_mem _ (List.mem_cons_self ..))) 0 _ rfl
    have cx1_ := Blk.cell (hw_.own _ (List.mem_cons_of_mem _ (List.mem_cons_self ..))) 1 _ rfl
    have cx2_ := Blk.cell (hw_.own _ (List.mem_cons_of_mem _ (List.mem_cons_self ..))) 2 _ rfl
    have cx3_ := Blk.cell (hw_.own _ (List.mem_cons_of_mem _ (List.mem_cons_self ..))) 3 _ rfl
    have cx4_ := Blk.cell (hw_.own _ (List.mem_cons_of_mem _ (List.mem_cons_self ..))) 4 _ rfl
    have cxl_ := Blk.lt (hw_.own _ (List.mem_cons_of_mem _ (List.mem_cons_self ..)))
    have cr0_ := Blk.cell (hw_.own _ (List.mem_cons_of_mem _ (List.mem_cons_of_mem _ (List.mem_cons_self ..)))) 0 _ rfl
    have cr1_ := Blk.cell (hw_.own _ (List.mem_cons_of_mem _ (List.mem_cons_of_mem _ (List.mem_cons_self ..)))) 1 _ rfl
    have cr2_ := Blk.cell (hw_.own _ (List.mem_cons_of_mem _ (List.mem_cons_of_mem _ (List.mem_cons_self ..)))) 2 _ rfl
    have cr3_ := Blk.cell (hw_.own _ (List.mem_cons_of_mem _ (List.mem_cons_of_mem _ (List.mem_cons_self ..)))) 3 _ rfl
    have cr4_ := Blk.cell (hw_.own _ (List.mem_cons_of_mem _ (List.mem_cons_of_mem _ (List.mem_cons_self ..)))) 4 _ rfl
    have crl_ := Blk.lt (hw_.own _ (List.mem_cons_of_mem _ (List.mem_cons_of_mem _ (List.mem_cons_self ..))))
    first | (go_simp; done) | (go_simp; with_reducible rfl) | (go_simp; rw [if_neg (by first | omega | (simp; omega))])
  try simp only [Act.put, List.setIfInBounds_toArray, List.set_cons_zero, List.set_cons_succ]
  try simp only [e1, e2, e3, e4, e5, e6]
  refine q_run ?_ ?_ ?_ ?_
  · kernel_rfl
  rotate_left
  · intro w_ hw_
    have cy0_ := Blk.cell (hw_.own _ (List.mem_cons_self ..)) 0 _ rfl
    have cy1_ := Blk.cell (hw_.own _ (List.mem_cons_self ..)) 1 _ rfl
    have cy2_ := Blk.cell (hw_.own _ (List.mem_cons_self ..)) 2 _ rfl
    have cy3_ := Blk.cell (hw_.own _ (List.mem_cons_self ..)) 3 _ rfl
    have cy4_ := Blk.cell (hw_.own _ (List.mem_cons_self ..)) 4 _ rfl
    have cyl_ := Blk.lt (hw_.own _ (List.mem_cons_self ..))
    have cx0_ := Blk.cell (hw_.own _ (List.mem_cons_of_mem _ (List.mem_cons_self ..))) 0 _ rfl
    have cx1_ := Blk.cell (hw_.own _ (List.mem_cons_of_mem _ (List.mem_cons_self ..))) 1 _ rfl
    have cx2_ := Blk.cell (hw_.own _ (List.mem_cons_of_mem _ (List.mem_cons_self ..))) 2 _ rfl
    have cx3_ := Blk.cell (hw_.own _ (List.mem_cons_of_mem _ (List.mem_cons_self ..))) 3 _ rfl
    have cx4_ := Blk.cell (hw_.own _ (List.mem_cons_of_mem _ (List.mem_cons_self ..))) 4 _ rfl
    have cxl_ := Blk.lt (hw_.own _ (List.mem_cons_of_mem _ (List.mem_cons_self ..)))
    have cr0_ := Blk.cell (hw_.own _ (List.mem_cons_of_mem _ (List.mem_cons_of_mem _ (List.mem_cons_self ..)))) 0 _ rfl
    have cr1_ := Blk.cell (hw_.own _ (List.mem_cons_of_mem _ (List.mem_cons_of_mem _ (List.mem_cons_self ..)))) 1 _ rfl
    have cr2_ := Blk.cell (hw_.own _ (List.mem_cons_of_mem _ (List.mem_cons_of_mem _ (List.mem_cons_self ..)))) 2 _ rfl
    have cr3_ := Blk.cell (hw_.own _ (List.mem_cons_of_mem _ (List.mem_cons_of_mem _ (List.mem_cons_self ..)))) 3 _ rfl
    have cr4_ := Blk.cell (hw_.own _ (List.mem_cons_of_mem _ (List.mem_cons_of_mem _ (List.mem_cons_self ..)))) 4 _ rfl
    have crl_ := Blk.lt (hw_.own _ (List.mem_cons_of_mem _ (List.mem_cons_of_mem _ (List.mem_cons_self ..))))
    first | (go_simp; done) | (go_simp; with_reducible rfl) | (go_simp; rw [if_neg (by first | omega | (simp; omega))])
  try simp only [Act.put, List.setIfInBounds_toArray, List.set_cons_zero, List.set_cons_succ]
  try simp only [e1, e2, e3, e4, e5, e6]
  first
   | (refine q_skip ?_ ?_
      · rfl)
   | (refine q_run ?_ ?_ ?_ ?_
      · kernel_rfl
      rotate_left
      · intro w_ hw_
        have cy0_ := Blk.cell (hw_.own _ (List.mem_cons_self ..)) 0 _ rfl
        have cy1_ := Blk.cell (hw_.own _ (List.mem_cons_self ..)) 1 _ rfl
        have cy2_ := Blk.cell (hw_.own _ (List.mem_cons_self ..)) 2 _ rfl
        have cy3_ := Blk.cell (hw_.own _ (List.mem_cons_self ..)) 3 _ rfl
        have cy4_ := Blk.cell (hw_.own _ (List.mem_cons_self ..)) 4 _ rfl
        have cyl_ := Blk.lt (hw_.own _ (List.mem_cons_self ..))
        have cx0_ := Blk.cell (hw_.own _ (List.mem_cons_of_mem _ (List.mem_cons_self ..))) 0 _ rfl
        have cx1_ := Blk.cell (hw_.own _ (List.mem_cons_of_mem _ (List.mem_cons_self ..))) 1 _ rfl
        have cx2_ := Blk.cell (hw_.own _ (List.mem_cons_of_mem _ (List.mem_cons_self ..))) 2 _ rfl
        have cx3_ := Blk.cell (hw_.own _ (List.mem_cons_of_mem _ (List.mem_cons_self ..))) 3 _ rfl
        have cx4_ := Blk.cell (hw_.own _ (List.mem_cons_of_mem _ (List.mem_cons_self ..))) 4 _ rfl
        have cxl_ := Blk.lt (hw_.own _ (List.mem_cons_of_mem _ (List.mem_cons_self ..)))
        have cr0_ := Blk.cell (hw_.own _ (List.mem_cons_of_mem _ (List.mem_cons_of_mem _ (List.mem_cons_self ..)))) 0 _ rfl
        have cr1_ := Blk.cell (hw_.own _ (List.mem_cons_of_mem _ (List.mem_cons_of_mem _ (List.mem_cons_self ..)))) 1 _ rfl
        have cr2_ := Blk.cell (hw_.own _ (List.mem_cons_of_mem _ (List.mem_cons_of_mem _ (List.mem_cons_self ..)))) 2 _ rfl
        have cr3_ := Blk.cell (hw_.own _ (List.mem_cons_of_mem _ (List.mem_cons_of_mem _ (List.mem_cons_self ..)))) 3 _ rfl
        have cr4_ := Blk.cell (hw_.own _ (List.mem_cons_of_mem _ (List.mem_cons_of_mem _ (List.mem_cons_self ..)))) 4 _ rfl
        have crl_ := Blk.lt (hw_.own _ (List.mem_cons_of_mem _ (List.mem_cons_of_mem _ (List.mem_cons_self ..))))
        first | (go_simp; done) | (go_simp; with_reducible rfl) | (go_simp; rw [if_neg (by first | omega | (simp; omega))]))
  try simp only [Act.put, List.setIfInBounds_toArray, List.set_cons_zero, List.set_cons_succ]
  try simp only [e1, e2, e3, e4, e5, e6]
  first
   | (refine q_skip ?_ ?_
      · rfl)
   | (refine q_run ?_ ?_ ?_ ?_
      · kernel_rfl
      rotate_left
      · intro w_ hw_
        have cy0_ := Blk.cell (hw_.own _ (List.mem_cons_self ..)) 0 _ rfl
        have cy1_ := Blk.cell (hw_.own _ (List.mem_cons_self ..)) 1 _ rfl
        have cy2_ := Blk.cell (hw_.own _ (List.mem_cons_self ..)) 2 _ rfl
        have cy3_ := Blk.cell (hw_.own _ (List.mem_cons_self ..)) 3 _ rfl
        have cy4_ := Blk.cell (hw_.own _ (List.mem_cons_self ..)) 4 _ rfl
        have cyl_ := Blk.lt (hw_.own _ (List.mem_cons_self ..))
        have cx0_ := Blk.cell (hw_.own _ (List.mem_cons_of_mem _ (List.mem_cons_self ..))) 0 _ rfl
        have cx1_ := Blk.cell (hw_.own _ (List.mem_cons_of_mem _ (List.mem_cons_self ..))) 1 _ rfl
        have cx2_ := Blk.cell (hw_.own _ (List.mem_cons_of_mem _ (List.mem_cons_self ..))) 2 _ rfl
        have cx3_ := Blk.cell (hw_.own _ (List.mem_cons_of_mem _ (List.mem_cons_self ..))) 3 _ rfl
        have cx4_ := Blk.cell (hw_.own _ (List.mem_cons_of_mem _ (List.mem_cons_self ..))) 4 _ rfl
        have cxl_ := Blk.lt (hw_.own _ (List.mem_cons_of_mem _ (List.mem_cons_self ..)))
        have cr0_ := Blk.cell (hw_.own _ (List.mem_cons_of_mem _ (List.mem_cons_of_mem _ (List.mem_cons_self ..)))) 0 _ rfl
        have cr1_ := Blk.cell (hw_.own _ (List.mem_cons_of_mem _ (List.mem_cons_of_mem _ (List.mem_cons_self ..)))) 1 _ rfl
        have cr2_ := Blk.cell (hw_.own _ (List.mem_cons_of_mem _ (List.mem_cons_of_mem _ (List.mem_cons_self ..)))) 2 _ rfl
        have cr3_ := Blk.cell (hw_.own _ (List.mem_cons_of_mem _ (List.mem_cons_of_mem _ (List.mem_cons_self ..)))) 3 _ rfl
        have cr4_ := Blk.cell (hw_.own _ (List.mem_cons_of_mem _ (List.mem_cons_of_mem _ (List.mem_cons_self ..)))) 4 _ rfl
        have crl_ := Blk.lt (hw_.own _ (List.mem_cons_of_mem _ (List.mem_cons_of_mem _ (List.mem_cons_self ..))))
        first | (go_simp; done) | (go_simp; with_reducible rfl) | (go_simp; rw [if_neg (by first | omega | (simp; omega))]))
  try simp only [Act.put, List.setIfInBounds_toArray, List.set_cons_zero, List.set_cons_succ]
  try simp only [e1, e2, e3, e4, e5, e6]
  first
   | (refine q_skip ?_ ?_
      · rfl)
   | (refine q_run ?_ ?_ ?_ ?_
      · kernel_rfl
      rotate_left
      · intro w_ hw_
        have cy0_ := Blk.cell (hw_.own _ (List.mem_cons_self ..)) 0 _ rfl
        have cy1_ := Blk.cell (hw_.own _ (List.mem_cons_self ..)) 1 _ rfl
        have cy2_ := Blk.cell (hw_.own _ (List.mem_cons_self ..)) 2 _ rfl
        have cy3_ := Blk.cell (hw_.own _ (List.mem_cons_self ..)) 3 _ rfl
        have cy4_ := Blk.cell (hw_.own _ (List.mem_cons_self ..)) 4 _ rfl
        have cyl_ := Blk.lt (hw_.own _ (List.mem_cons_self ..))
        have cx0_ := Blk.cell (hw_.own _ (List.mem_cons_of_mem _ (List.mem_cons_self ..))) 0 _ rfl
        have cx1_ := Blk.cell (hw_.own _ (List.mem_cons_of_mem _ (List.mem_cons_self ..))) 1 _ rfl
        have cx2_ := Blk.cell (hw_.own _ (List.mem_cons_of_mem _ (List.mem_cons_self ..))) 2 _ rfl
        have cx3_ := Blk.cell (hw_.own _ (List.mem_cons_of_mem _ (List.mem_cons_self ..))) 3 _ rfl
        have cx4_ := Blk.cell (hw_.own _ (List.mem_cons_of_mem _ (List.mem_cons_self ..))) 4 _ rfl
        have cxl_ := Blk.lt (hw_.own _ (List.mem_cons_of_mem _ (List.mem_cons_self ..)))
        have cr0_ := Blk.cell (hw_.own _ (List.mem_cons_of_mem _ (List.mem_cons_of_mem _ (List.mem_cons_self ..)))) 0 _ rfl
        have cr1_ := Blk.cell (hw_.own _ (List.mem_cons_of_mem _ (List.mem_cons_of_mem _ (List.mem_cons_self ..)))) 1 _ rfl
        have cr2_ := Blk.cell (hw_.own _ (List.mem_cons_of_mem _ (List.mem_cons_of_mem _ (List.mem_cons_self ..)))) 2 _ rfl
        have cr3_ := Blk.cell (hw_.own _ (List.mem_cons_of_mem _ (List.mem_cons_of_mem _ (List.mem_cons_self ..)))) 3 _ rfl
        have cr4_ := Blk.cell (hw_.own _ (List.mem_cons_of_mem _ (List.mem_cons_of_mem _ (List.mem_cons_self ..)))) 4 _ rfl
        have crl_ := Blk.lt (hw_.own _ (List.mem_cons_of_mem _ (List.mem_cons_of_mem _ (List.mem_cons_self ..))))
        first | (go_simp; done) | (go_simp; with_reducible rfl) | (go_simp; rw [if_neg (by first | omega | (simp; omega))]))
  try simp only [Act.put, List.setIfInBounds_toArray, List.set_cons_zero, List.set_cons_succ]
  try simp only [e1, e2, e3, e4, e5, e6]
  refine q_run ?_ ?_ ?_ ?_
  · kernel_rfl
  rotate_left
  · intro w_ hw_
    have cy0_ := Blk.cell (hw_.own _ (List.mem_cons_self ..)) 0 _ rfl
    have cy1_ := Blk.cell (hw_.own _ (List.mem_cons_self ..)) 1 _ rfl
    have cy2_ := Blk.cell (hw_.own _ (List.mem_cons_self ..)) 2 _ rfl
    have cy3_ := Blk.cell (hw_.own _ (List.mem_cons_self ..)) 3 _ rfl
    have cy4_ := Blk.cell (hw_.own _ (List.mem_cons_self ..)) 4 _ rfl
    have cyl_ := Blk.lt (hw_.own _ (List.mem_cons_self ..))
    have cx0_ := Blk.cell (hw_.own _ (List.mem_cons_of_mem _ (List.mem_cons_self ..))) 0 _ rfl
    have cx1_ := Blk.cell (hw_.own _ (List.mem_cons_of_mem _ (List.mem_cons_self ..))) 1 _ rfl
    have cx2_ := Blk.cell (hw_.own _ (List.mem_cons_of_mem _ (List.mem_cons_self ..))) 2 _ rfl
    have cx3_ := Blk.cell (hw_.own _ (List.mem_cons_of_mem _ (List.mem_cons_self ..))) 3 _ rfl
    have cx4_ := Blk.cell (hw_.own _ (List.mem_cons_of_mem _ (List.mem_cons_self ..))) 4 _ rfl
    have cxl_ := Blk.lt (hw_.own _ (List.mem_cons_of_mem _ (List.mem_cons_self ..)))
    have cr0_ := Blk.cell (hw_.own _ (List.mem_cons_of_mem _ (List.mem_cons_of_mem _ (List.mem_cons_self ..)))) 0 _ rfl
    have cr1_ := Blk.cell (hw_.own _ (List.mem_cons_of_mem _ (List.mem_cons_of_mem _ (List.mem_cons_self ..)))) 1 _ rfl
    have cr2_ := Blk.cell (hw_.own _ (List.mem_cons_of_mem _ (List.mem_cons_of_mem _ (List.mem_cons_self ..)))) 2 _ rfl
    have cr3_ := Blk.cell (hw_.own _ (List.mem_cons_of_mem _ (List.mem_cons_of_mem _ (List.mem_cons_self ..)))) 3 _ rfl
    have cr4_ := Blk.cell (hw_.own _ (List.mem_cons_of_mem _ (List.mem_cons_of_mem _ (List.mem_cons_self ..)))) 4 _ rfl
    have crl_ := Blk.lt (hw_.own _ (List.mem_cons_of_mem _ (List.mem_cons_of_mem _ (List.mem_cons_self ..))))
    first | (go_simp; done) | (go_simp; with_reducible rfl) | (go_simp; rw [if_neg (by first | omega | (simp; omega))])
  try simp only [Act.put, List.setIfInBounds_toArray, List.set_cons_zero, List.set_cons_succ]
  try simp only [e1, e2, e3, e4, e5, e6]
  refine q_run ?_ ?_ ?_ ?_
  · kernel_rfl
  rotate_left
  · intro w_ hw_
    have cy0_ := Blk.cell (hw_.own _ (List.mem_cons_self ..)) 0 _ rfl
    have cy1_ := Blk.cell (hw_.own _ (List.mem_cons_self ..)) 1 _ rfl
    have cy2_ := Blk.cell (hw_.own _ (List.mem_cons_self ..)) 2 _ rfl
    have cy3_ := Blk.cell (hw_.own _ (List.mem_cons_self ..)) 3 _ rfl
    have cy4_ := Blk.cell (hw_.own _ (List.mem_cons_self ..)) 4 _ rfl
    have cyl_ := Blk.lt (hw_.own _ (List.mem_cons_self ..))
    have cx0_ := Blk.cell (hw_.own _ (List.mem_cons_of_mem _ (List.mem_cons_self ..))) 0 _ rfl
    have cx1_ := Blk.cell (hw_.own _ (List.mem_cons_of_mem _ (List.mem_cons_self ..))) 1 _ rfl
    have cx2_ := Blk.cell (hw_.own _ (List.mem_cons_of_mem _ (List.mem_cons_self ..))) 2 _ rfl
    have cx3_ := Blk.cell (hw_.own _ (List.mem_cons_of_mem _ (List.mem_cons_self ..))) 3 _ rfl
    have cx4_ := Blk.cell (hw_.own _ (List.mem_cons_of_mem _ (List.mem_cons_self ..))) 4 _ rfl
    have cxl_ := Blk.lt (hw_.own _ (List.mem_cons_of_mem _ (List.mem_cons_self ..)))
    have cr0_ := Blk.cell (hw_.own _ (List.mem_cons_of_mem _ (List.mem_cons_of_mem _ (List.mem_cons_self ..)))) 0 _ rfl
    have cr1_ := Blk.cell (hw_.own _ (List.mem_cons_of_mem _ (List.mem_cons_of_mem _ (List.mem_cons_self ..)))) 1 _ rfl
    have cr2_ := Blk.cell (hw_.own _ (List.mem_cons_of_mem _ (List.mem_cons_of_mem _ (List.mem_cons_self ..)))) 2 _ rfl
    have cr3_ := Blk.cell (hw_.own _ (List.mem_cons_of_mem _ (List.mem_cons_of_mem _ (List.mem_cons_self ..)))) 3 _ rfl
    have cr4_ := Blk.cell (hw_.own _ (List.mem_cons_of_mem _ (List.mem_cons_of_mem _ (List.mem_cons_self ..)))) 4 _ rfl
    have crl_ := Blk.lt (hw_.own _ (List.mem_cons_of_mem _ (List.mem_cons_of_mem _ (List.mem_cons_self ..))))
    first | (go_simp; done) | (go_simp; with_reducible rfl) | (go_simp; rw [if_neg (by first | omega | (simp; omega))])
  try simp only [Act.put, List.setIfInBounds_toArray, List.set_cons_zero, List.set_cons_succ]
  try simp only [e1, e2, e3, e4, e5, e6]
  first
   | (refine q_skip ?_ ?_
      · rfl)
   | (refine q_run ?_ ?_ ?_ ?_
      · kernel_rfl
      rotate_left
      · intro w_ hw_
        have cy0_ := Blk.cell (hw_.own _ (List.mem_cons_self ..)) 0 _ rfl
        have cy1_ := Blk.cell (hw_.own _ (List.mem_cons_self ..)) 1 _ rfl
        have cy2_ := Blk.cell (hw_.own _ (List.mem_cons_self ..)) 2 _ rfl
        have cy3_ := Blk.cell (hw_.own _ (List.mem_cons_self ..)) 3 _ rfl
        have cy4_ := Blk.cell (hw_.own _ (List.mem_cons_self ..)) 4 _ rfl
        have cyl_ := Blk.lt (hw_.own _ (List.mem_cons_self ..))
        have cx0_ := Blk.cell (hw_.own _ (List.mem_cons_of_mem _ (List.mem_cons_self ..))) 0 _ rfl
        have cx1_ := Blk.cell (hw_.own _ (List.mem_cons_of_mem _ (List.mem_cons_self ..))) 1 _ rfl
        have cx2_ := Blk.cell (hw_.own _ (List.mem_cons_of_mem _ (List.mem_cons_self ..))) 2 _ rfl
        have cx3_ := Blk.cell (hw_.own _ (List.mem_cons_of_mem _ (List.mem_cons_self ..))) 3 _ rfl
        have cx4_ := Blk.cell (hw_.own _ (List.mem_cons_of_mem _ (List.mem_cons_self ..))) 4 _ rfl
        have cxl_ := Blk.lt (hw_.own _ (List.mem_cons_of_mem _ (List.mem_cons_self ..)))
        have cr0_ := Blk.cell (hw_.own _ (List.mem_cons_of_mem _ (List.mem_cons_of_mem _ (List.mem_cons_self ..)))) 0 _ rfl
        have cr1_ := Blk.cell (hw_.own _ (List.mem_cons_of_mem _ (List.mem_cons_of_mem _ (List.mem_cons_self ..)))) 1 _ rfl
        have cr2_ := Blk.cell (hw_.own _ (List.mem_cons_of_mem _ (List.mem_cons_of_mem _ (List.mem_cons_self ..)))) 2 _ rfl
        have cr3_ := Blk.cell (hw_.own _ (List.mem_cons_of_mem _ (List.mem_cons_of_mem _ (List.mem_cons_self ..)))) 3 _ rfl
        have cr4_ := Blk.cell (hw_.own _ (List.mem_cons_of_mem _ (List.mem_cons_of_mem _ (List.mem_cons_self ..)))) 4 _ rfl
        have crl_ := Blk.lt (hw_.own _ (List.mem_cons_of_mem _ (List.mem_cons_of_mem _ (List.mem_cons_self ..))))
        first | (go_simp; done) | (go_simp; with_reducible rfl) | (go_simp; rw [if_neg (by first | omega | (simp; omega))]))
  try simp only [Act.put, List.setIfInBounds_toArray, List.set_cons_zero, List.set_cons_succ]
  try simp only [e1, e2, e3, e4, e5, e6]
  first
   | (refine q_skip ?_ ?_
      · rfl)
   | (refine q_run ?_ ?_ ?_ ?_
      · kernel_rfl
      rotate_left
      · intro w_ hw_
        have cy0_ := Blk.cell (hw_.own _ (List.mem_cons_self ..)) 0 _ rfl
        have cy1_ := Blk.cell (hw_.own _ (List.mem_cons_self ..)) 1 _ rfl
        have cy2_ := Blk.cell (hw_.own _ (List.mem_cons_self ..)) 2 _ rfl
        have cy3_ := Blk.cell (hw_.own _ (List.mem_cons_self ..)) 3 _ rfl
        have cy4_ := Blk.cell (hw_.own _ (List.mem_cons_self ..)) 4 _ rfl
        have cyl_ := Blk.lt (hw_.own _ (List.mem_cons_self ..))
        have cx0_ := Blk.cell (hw_.own _ (List.mem_cons_of_mem _ (List.mem_cons_self ..))) 0 _ rfl
        have cx1_ := Blk.cell (hw_.own _ (List.mem_cons_of_mem _ (List.mem_cons_self ..))) 1 _ rfl
        have cx2_ := Blk.cell (hw_.own _ (List.mem_cons_of_mem _ (List.mem_cons_self ..))) 2 _ rfl
        have cx3_ := Blk.cell (hw_.own _ (List.mem_cons_of_mem _ (List.mem_cons_self ..))) 3 _ rfl
        have cx4_ := Blk.cell (hw_.own _ (List.mem_cons_of_mem _ (List.mem_cons_self ..))) 4 _ rfl
        have cxl_ := Blk.lt (hw_.own _ (List.mem_cons_of_mem _ (List.mem_cons_self ..)))
        have cr0_ := Blk.cell (hw_.own _ (List.mem_cons_of_mem _ (List.mem_cons_of_mem _ (List.mem_cons_self ..)))) 0 _ rfl
        have cr1_ := Blk.cell (hw_.own _ (List.mem_cons_of_mem _ (List.mem_cons_of_mem _ (List.mem_cons_self ..)))) 1 _ rfl
        have cr2_ := Blk.cell (hw_.own _ (List.mem_cons_of_mem _ (List.mem_cons_of_mem _ (List.mem_cons_self ..)))) 2 _ rfl
        have cr3_ := Blk.cell (hw_.own _ (List.mem_cons_of_mem _ (List.mem_cons_of_mem _ (List.mem_cons_self ..)))) 3 _ rfl
        have cr4_ := Blk.cell (hw_.own _ (List.mem_cons_of_mem _ (List.mem_cons_of_mem _ (List.mem_cons_self ..)))) 4 _ rfl
        have crl_ := Blk.lt (hw_.own _ (List.mem_cons_of_mem _ (List.mem_cons_of_mem _ (List.mem_cons_self ..))))
        first | (go_simp; done) | (go_simp; with_reducible rfl) | (go_simp; rw [if_neg (by first | omega | (simp; omega))]))
  try simp only [Act.put, List.setIfInBounds_toArray, List.set_cons_zero, List.set_cons_succ]
  try simp only [e1, e2, e3, e4, e5, e6]
  first
   | (refine q_skip ?_ ?_
      · rfl)
   | (refine q_run ?_ ?_ ?_ ?_
      · kernel_rfl
      rotate_left
      · intro w_ hw_
        have cy0_ := Blk.cell (hw_.own _ (List.mem_cons_self ..)) 0 _ rfl
        have cy1_ := Blk.cell (hw_.own _ (List.mem_cons_self ..)) 1 _ rfl
        have cy2_ := Blk.cell (hw_.own _ (List.mem_cons_self ..)) 2 _ rfl
        have cy3_ := Blk.cell (hw_.own _ (List.mem_cons_self ..)) 3 _ rfl
        have cy4_ := Blk.cell (hw_.own _ (List.mem_cons_self ..)) 4 _ rfl
        have cyl_ := Blk.lt (hw_.own _ (List.mem_cons_self ..))
        have cx0_ := Blk.cell (hw_.own _ (List.mem_cons_of_mem _ (List.mem_cons_self ..))) 0 _ rfl
        have cx1_ := Blk.cell (hw_.own _ (List.mem_cons_of_mem _ (List.mem_cons_self ..))) 1 _ rfl
        have cx2_ := Blk.cell (hw_.own _ (List.mem_cons_of_mem _ (List.mem_cons_self ..))) 2 _ rfl
        have cx3_ := Blk.cell (hw_.own _ (List.mem_cons_of_mem _ (List.mem_cons_self ..))) 3 _ rfl
        have cx4_ := Blk.cell (hw_.own _ (List.mem_cons_of_mem _ (List.mem_cons_self ..))) 4 _ rfl
        have cxl_ := Blk.lt (hw_.own _ (List.mem_cons_of_mem _ (List.mem_cons_self ..)))
        have cr0_ := Blk.cell (hw_.own _ (List.mem_cons_of_mem _ (List.mem_cons_of_mem _ (List.mem_cons_self ..)))) 0 _ rfl
        have cr1_ := Blk.cell (hw_.own _ (List.mem_cons_of_mem _ (List.mem_cons_of_mem _ (List.mem_cons_self ..)))) 1 _ rfl
        have cr2_ := Blk.cell (hw_.own _ (List.mem_cons_of_mem _ (List.mem_cons_of_mem _ (List.mem_cons_self ..)))) 2 _ rfl
        have cr3_ := Blk.cell (hw_.own _ (List.mem_cons_of_mem _ (List.mem_cons_of_mem _ (List.mem_cons_self ..)))) 3 _ rfl
        have cr4_ := Blk.cell (hw_.own _ (List.mem_cons_of_mem _ (List.mem_cons_of_mem _ (List.mem_cons_self ..)))) 4 _ rfl
        have crl_ := Blk.lt (hw_.own _ (List.mem_cons_of_mem _ (List.mem_cons_of_mem _ (List.mem_cons_self ..))))
        first | (go_simp; done) | (go_simp; with_reducible rfl) | (go_simp; rw [if_neg (by first | omega | (simp; omega))]))
  try simp only [Act.put, List.setIfInBounds_toArray, List.set_cons_zero, List.set_cons_succ]
  try simp only [e1, e2, e3, e4, e5, e6]
  refine q_run ?_ ?_ ?_ ?_
  · kernel_rfl
  rotate_left
  · intro w_ hw_
    have cy0_ := Blk.cell (hw_.own _ (List.mem_cons_self ..)) 0 _ rfl
    have cy1_ := Blk.cell (hw_.own _ (List.mem_cons_self ..)) 1 _ rfl
    have cy2_ := Blk.cell (hw_.own _ (List.mem_cons_self ..)) 2 _ rfl
    have cy3_ := Blk.cell (hw_.own _ (List.mem_cons_self ..)) 3 _ rfl
    have cy4_ := Blk.cell (hw_.own _ (List.mem_cons_self ..)) 4 _ rfl
    have cyl_ := Blk.lt (hw_.own _ (List.mem_cons_self ..))
    have cx0_ := Blk.cell (hw_.own _ (List.mem_cons_of_mem _ (List.mem_cons_self ..))) 0 _ rfl
    have cx1_ := Blk.cell (hw_.own _ (List.mem_cons_of_mem _ (List.mem_cons_self ..))) 1 _ rfl
    have cx2_ := Blk.cell (hw_.own _ (List.mem_cons_of_mem _ (List.mem_cons_self ..))) 2 _ rfl
    have cx3_ := Blk.cell (hw_.own _ (List.mem_cons_of_mem _ (List.mem_cons_self ..))) 3 _ rfl
    have cx4_ := Blk.cell (hw_.own _ (List.mem_cons_of_mem _ (List.mem_cons_self ..))) 4 _ rfl
    have cxl_ := Blk.lt (hw_.own _ (List.mem_cons_of_mem _ (List.mem_cons_self ..)))
    have cr0_ := Blk.cell (hw_.own _ (List.mem_cons_of_mem _ (List.mem_cons_of_mem _ (List.mem_cons_self ..)))) 0 _ rfl
    have cr1_ := Blk.cell (hw_.own _ (List.mem_cons_of_mem _ (List.mem_cons_of_mem _ (List.mem_cons_self ..)))) 1 _ rfl
    have cr2_ := Blk.cell (hw_.own _ (List.mem_cons_of_mem _ (List.mem_cons_of_mem _ (List.mem_cons_self ..)))) 2 _ rfl
    have cr3_ := Blk.cell (hw_.own _ (List.mem_cons_of_mem _ (List.mem_cons_of_mem _ (List.mem_cons_self ..)))) 3 _ rfl
    have cr4_ := Blk.cell (hw_.own _ (List.mem_cons_of_mem _ (List.mem_cons_of_mem _ (List.mem_cons_self ..)))) 4 _ rfl
    have crl_ := Blk.lt (hw_.own _ (List.mem_cons_of_mem _ (List.mem_cons_of_mem _ (List.mem_cons_self ..))))
    first | (go_simp; done) | (go_simp; with_reducible rfl) | (go_simp; rw [if_neg (by first | omega | (simp; omega))])
  try simp only [Act.put, List.setIfInBounds_toArray, List.set_cons_zero, List.set_cons_succ]
  try simp only [e1, e2, e3, e4, e5, e6]
  refine q_run ?_ ?_ ?_ ?_
  · kernel_rfl
  rotate_left
  · intro w_ hw_
    have cy0_ := Blk.cell (hw_.own _ (List.mem_cons_self ..)) 0 _ rfl
    have cy1_ := Blk.cell (hw_.own _ (List.mem_cons_self ..)) 1 _ rfl
    have cy2_ := Blk.cell (hw_.own _ (List.mem_cons_self ..)) 2 _ rfl
    have cy3_ := Blk.cell (hw_.own _ (List.mem_cons_self ..)) 3 _ rfl
    have cy4_ := Blk.cell (hw_.own _ (List.mem_cons_self ..)) 4 _ rfl
    have cyl_ := Blk.lt (hw_.own _ (List.mem_cons_self ..))
    have cx0_ := Blk.cell (hw_.own _ (List.mem_cons_of_mem _ (List.mem_cons_self ..))) 0 _ rfl
    have cx1_ := Blk.cell (hw_.own _ (List.mem_cons_of_mem _ (List.mem_cons_self ..))) 1 _ rfl
    have cx2_ := Blk.cell (hw_.own _ (List.mem_cons_of_mem _ (List.mem_cons_self ..))) 2 _ rfl
    have cx3_ := Blk.cell (hw_.own _ (List.mem_cons_of_mem _ (List.mem_cons_self ..))) 3 _ rfl
    have cx4_ := Blk.cell (hw_.own _ (List.mem_cons_of_mem _ (List.mem_cons_self ..))) 4 _ rfl
    have cxl_ := Blk.lt (hw_.own _ (List.mem_cons_of_mem _ (List.mem_cons_self ..)))
    have cr0_ := Blk.cell (hw_.own _ (List.mem_cons_of_mem _ (List.mem_cons_of_mem _ (List.mem_cons_self ..)))) 0 _ rfl
    have cr1_ := Blk.cell (hw_.own _ (List.mem_cons_of_mem _ (List.mem_cons_of_mem _ (List.mem_cons_self ..)))) 1 _ rfl
    have cr2_ := Blk.cell (hw_.own _ (List.mem_cons_of_mem _ (List.mem_cons_of_mem _ (List.mem_cons_self ..)))) 2 _ rfl
    have cr3_ := Blk.cell (hw_.own _ (List.mem_cons_of_mem _ (List.mem_cons_of_mem _ (List.mem_cons_self ..)))) 3 _ rfl
    have cr4_ := Blk.cell (hw_.own _ (List.mem_cons_of_mem _ (List.mem_cons_of_mem _ (List.mem_cons_self ..)))) 4 _ rfl
    have crl_ := Blk.lt (hw_.own _ (List.mem_cons_of_mem _ (List.mem_cons_of_mem _ (List.mem_cons_self ..))))
    first | (go_simp; done) | (go_simp; with_reducible rfl) | (go_simp; rw [if_neg (by first | omega | (simp; omega))])
  try simp only [Act.put, List.setIfInBounds_toArray, List.set_cons_zero, List.set_cons_succ]
  try simp only [e1, e2, e3, e4, e5, e6]
  first
   | (refine q_skip ?_ ?_
      · rfl)
   | (refine q_run ?_ ?_ ?_ ?_
      · kernel_rfl
      rotate_left
      · intro w_ hw_
        have cy0_ := Blk.cell (hw_.own _ (List.mem_cons_self ..)) 0 _ rfl
        have cy1_ := Blk.cell (hw_.own _ (List.mem_cons_self ..)) 1 _ rfl
        have cy2_ := Blk.cell (hw_.own _ (List.mem_cons_self ..)) 2 _ rfl
        have cy3_ := Blk.cell (hw_.own _ (List.mem_cons_self ..)) 3 _ rfl
        have cy4_ := Blk.cell (hw_.own _ (List.mem_cons_self ..)) 4 _ rfl
        have cyl_ := Blk.lt (hw_.own _ (List.mem_cons_self ..))
        have cx0_ := Blk.cell (hw_.own _ (List.mem_cons_of_mem _ (List.mem_cons_self ..))) 0 _ rfl
        have cx1_ := Blk.cell (hw_.own _ (List.mem_cons_of_mem _ (List.mem_cons_self ..))) 1 _ rfl
        have cx2_ := Blk.cell (hw_.own _ (List.mem_cons_of_mem _ (List.mem_cons_self ..))) 2 _ rfl
        have cx3_ := Blk.cell (hw_.own _ (List.mem_cons_of_mem _ (List.mem_cons_self ..))) 3 _ rfl
        have cx4_ := Blk.cell (hw_.own _ (List.mem_cons_of_mem _ (List.mem_cons_self ..))) 4 _ rfl
        have cxl_ := Blk.lt (hw_.own _ (List.mem_cons_of_mem _ (List.mem_cons_self ..)))
        have cr0_ := Blk.cell (hw_.own _ (List.mem_cons_of_mem _ (List.mem_cons_of_mem _ (List.mem_cons_self ..)))) 0 _ rfl
        have cr1_ := Blk.cell (hw_.own _ (List.mem_cons_of_mem _ (List.mem_cons_of_mem _ (List.mem_cons_self ..)))) 1 _ rfl
        have cr2_ := Blk.cell (hw_.own _ (List.mem_cons_of_mem _ (List.mem_cons_of_mem _ (List.mem_cons_self ..)))) 2 _ rfl
        have cr3_ := Blk.cell (hw_.own _ (List.mem_cons_of_mem _ (List.mem_cons_of_mem _ (List.mem_cons_self ..)))) 3 _ rfl
        have cr4_ := Blk.cell (hw_.own _ (List.mem_cons_of_mem _ (List.mem_cons_of_mem _ (List.mem_cons_self ..)))) 4 _ rfl
        have crl_ := Blk.lt (hw_.own _ (List.mem_cons_of_mem _ (List.mem_cons_of_mem _ (List.mem_cons_self ..))))
        first | (go_simp; done) | (go_simp; with_reducible rfl) | (go_simp; rw [if_neg (by first | omega | (simp; omega))]))
  try simp only [Act.put, List.setIfInBounds_toArray, List.set_cons_zero, List.set_cons_succ]
  try simp only [e1, e2, e3, e4, e5, e6]
  first
   | (refine q_skip ?_ ?_
      · rfl)
   | (refine q_run ?_ ?_ ?_ ?_
      · kernel_rfl
      rotate_left
      · intro w_ hw_
        have cy0_ := Blk.cell (hw_.own _ (List.mem_cons_self ..)) 0 _ rfl
        have cy1_ := Blk.cell (hw_.own _ (List.mem_cons_self ..)) 1 _ rfl
        have cy2_ := Blk.cell (hw_.own _ (List.mem_cons_self ..)) 2 _ rfl
        have cy3_ := Blk.cell (hw_.own _ (List.mem_cons_self ..)) 3 _ rfl
        have cy4_ := Blk.cell (hw_.own _ (List.mem_cons_self ..)) 4 _ rfl
        have cyl_ := Blk.lt (hw_.own _ (List.mem_cons_self ..))
        have cx0_ := Blk.cell (hw_.own _ (List.mem_cons_of_mem _ (List.mem_cons_self ..))) 0 _ rfl
        have cx1_ := Blk.cell (hw_.own _ (List.mem_cons_of_mem _ (List.mem_cons_self ..))) 1 _ rfl
        have cx2_ := Blk.cell (hw_.own _ (List.mem_cons_of_mem _ (List.mem_cons_self ..))) 2 _ rfl
        have cx3_ := Blk.cell (hw_.own _ (List.mem_cons_of_mem _ (List.mem_cons_self ..))) 3 _ rfl
        have cx4_ := Blk.cell (hw_.own _ (List.mem_cons_of_mem _ (List.mem_cons_self ..))) 4 _ rfl
        have cxl_ := Blk.lt (hw_.own _ (List.mem_cons_of_mem _ (List.mem_cons_self ..)))
        have cr0_ := Blk.cell (hw_.own _ (List.mem_cons_of_mem _ (List.mem_cons_of_mem _ (List.mem_cons_self ..)))) 0 _ rfl
        have cr1_ := Blk.cell (hw_.own _ (List.mem_cons_of_mem _ (List.mem_cons_of_mem _ (List.mem_cons_self ..)))) 1 _ rfl
        have cr2_ := Blk.cell (hw_.own _ (List.mem_cons_of_mem _ (List.mem_cons_of_mem _ (List.mem_cons_self ..)))) 2 _ rfl
        have cr3_ := Blk.cell (hw_.own _ (List.mem_cons_of_mem _ (List.mem_cons_of_mem _ (List.mem_cons_self ..)))) 3 _ rfl
        have cr4_ := Blk.cell (hw_.own _ (List.mem_cons_of_mem _ (List.mem_cons_of_mem _ (List.mem_cons_self ..)))) 4 _ rfl
        have crl_ := Blk.lt (hw_.own _ (List.mem_cons_of_mem _ (List.mem_cons_of_mem _ (List.mem_cons_self ..))))
        first | (go_simp; done) | (go_simp; with_reducible rfl) | (go_simp; rw [if_neg (by first | omega | (simp; omega))]))
  try simp only [Act.put, List.setIfInBounds_toArray, List.set_cons_zero, List.set_cons_succ]
  try simp only [e1, e2, e3, e4, e5, e6]
  first
   | (refine q_skip ?_ ?_
      · rfl)
   | (refine q_call ?_ (.bool true) ?_ ?_ ?_ ?_ ?_
      · kernel_rfl
      rotate_left 2
      · intro w_ hw_
        go_simp
        refine ⟨?_, ?_⟩ <;> with_reducible rfl
      · intro w_ hw_
        have cy0_ := Blk.cell (hw_.own _ (List.mem_cons_self ..)) 0 _ rfl
        have cy1_ := Blk.cell (hw_.own _ (List.mem_cons_self ..)) 1 _ rfl
        have cy2_ := Blk.cell (hw_.own _ (List.mem_cons_self ..)) 2 _ rfl
        have cy3_ := Blk.cell (hw_.own _ (List.mem_cons_self ..)) 3 _ rfl
        have cy4_ := Blk.cell (hw_.own _ (List.mem_cons_self ..)) 4 _ rfl
        have cyl_ := Blk.lt (hw_.own _ (List.mem_cons_self ..))
        have cx0_ := Blk.cell (hw_.own _ (List.mem_cons_of_mem _ (List.mem_cons_self ..))) 0 _ rfl
        have cx1_ := Blk.cell (hw_.own _ (List.mem_cons_of_mem _ (List.mem_cons_self ..))) 1 _ rfl
        have cx2_ := Blk.cell (hw_.own _ (List.mem_cons_of_mem _ (List.mem_cons_self ..))) 2 _ rfl
        have cx3_ := Blk.cell (hw_.own _ (List.mem_cons_of_mem _ (List.mem_cons_self ..))) 3 _ rfl
        have cx4_ := Blk.cell (hw_.own _ (List.mem_cons_of_mem _ (List.mem_cons_self ..))) 4 _ rfl
        have cxl_ := Blk.lt (hw_.own _ (List.mem_cons_of_mem _ (List.mem_cons_self ..)))
        have cr0_ := Blk.cell (hw_.own _ (List.mem_cons_of_mem _ (List.mem_cons_of_mem _ (List.mem_cons_self ..)))) 0 _ rfl
        have cr1_ := Blk.cell (hw_.own _ (List.mem_cons_of_mem _ (List.mem_cons_of_mem _ (List.mem_cons_self ..)))) 1 _ rfl
        have cr2_ := Blk.cell (hw_.own _ (List.mem_cons_of_mem _ (List.mem_cons_of_mem _ (List.mem_cons_self ..)))) 2 _ rfl
        have cr3_ := Blk.cell (hw_.own _ (List.mem_cons_of_mem _ (List.mem_cons_of_mem _ (List.mem_cons_self ..)))) 3 _ rfl
        have cr4_ := Blk.cell (hw_.own _ (List.mem_cons_of_mem _ (List.mem_cons_of_mem _ (List.mem_cons_self ..)))) 4 _ rfl
        have crl_ := Blk.lt (hw_.own _ (List.mem_cons_of_mem _ (List.mem_cons_of_mem _ (List.mem_cons_self ..))))
        exact (refSame_s Aa Ab pn ca cb ps hpl _ (hw_.textm (by simp)) (hw_.textm (by simp)) (by omega)).mono fun _ _ ⟨h1_, h2_⟩ => ⟨h1_, hw_.next h2_⟩)
  try simp only [Act.put, List.setIfInBounds_toArray, List.set_cons_zero, List.set_cons_succ]
  try simp only [e1, e2, e3, e4, e5, e6]
  refine q_run ?_ ?_ ?_ ?_
  · kernel_rfl
  rotate_left
  · intro w_ hw_
    have cy0_ := Blk.cell (hw_.own _ (List.mem_cons_self ..)) 0 _ rfl
    have cy1_ := Blk.cell (hw_.own _ (List.mem_cons_self ..)) 1 _ rfl
    have cy2_ := Blk.cell (hw_.own _ (List.mem_cons_self ..)) 2 _ rfl
    have cy3_ := Blk.cell (hw_.own _ (List.mem_cons_self ..)) 3 _ rfl
    have cy4_ := Blk.cell (hw_.own _ (List.mem_cons_self ..)) 4 _ rfl
    have cyl_ := Blk.lt (hw_.own _ (List.mem_cons_self ..))
    have cx0_ := Blk.cell (hw_.own _ (List.mem_cons_of_mem _ (List.mem_cons_self ..))) 0 _ rfl
    have cx1_ := Blk.cell (hw_.own _ (List.mem_cons_of_mem _ (List.mem_cons_self ..))) 1 _ rfl
    have cx2_ := Blk.cell (hw_.own _ (List.mem_cons_of_mem _ (List.mem_cons_self ..))) 2 _ rfl
    have cx3_ := Blk.cell (hw_.own _ (List.mem_cons_of_mem _ (List.mem_cons_self ..))) 3 _ rfl
    have cx4_ := Blk.cell (hw_.own _ (List.mem_cons_of_mem _ (List.mem_cons_self ..))) 4 _ rfl
    have cxl_ := Blk.lt (hw_.own _ (List.mem_cons_of_mem _ (List.mem_cons_self ..)))
    have cr0_ := Blk.cell (hw_.own _ (List.mem_cons_of_mem _ (List.mem_cons_of_mem _ (List.mem_cons_self ..)))) 0 _ rfl
    have cr1_ := Blk.cell (hw_.own _ (List.mem_cons_of_mem _ (List.mem_cons_of_mem _ (List.mem_cons_self ..)))) 1 _ rfl
    have cr2_ := Blk.cell (hw_.own _ (List.mem_cons_of_mem _ (List.mem_cons_of_mem _ (List.mem_cons_self ..)))) 2 _ rfl
    have cr3_ := Blk.cell (hw_.own _ (List.mem_cons_of_mem _ (List.mem_cons_of_mem _ (List.mem_cons_self ..)))) 3 _ rfl
    have cr4_ := Blk.cell (hw_.own _ (List.mem_cons_of_mem _ (List.mem_cons_of_mem _ (List.mem_cons_self ..)))) 4 _ rfl
    have crl_ := Blk.lt (hw_.own _ (List.mem_cons_of_mem _ (List.mem_cons_of_mem _ (List.mem_cons_self ..))))
    first | (go_simp; done) | (go_simp; with_reducible rfl) | (go_simp; rw [if_neg (by first | omega | (simp; omega))])
  try simp only [Act.put, List.setIfInBounds_toArray, List.set_cons_zero, List.set_cons_succ]
  try simp only [e1, e2, e3, e4, e5, e6]
  refine q_run ?_ ?_ ?_ ?_
  · kernel_rfl
  rotate_left
  · intro w_ hw_
    have cy0_ := Blk.cell (hw_.own _ (List.mem_cons_self ..)) 0 _ rfl
    have cy1_ := Blk.cell (hw_.own _ (List.mem_cons_self ..)) 1 _ rfl
    have cy2_ := Blk.cell (hw_.own _ (List.mem_cons_self ..)) 2 _ rfl
    have cy3_ := Blk.cell (hw_.own _ (List.mem_cons_self ..)) 3 _ rfl
    have cy4_ := Blk.cell (hw_.own _ (List.mem_cons_self ..)) 4 _ rfl
    have cyl_ := Blk.lt (hw_.own _ (List.mem_cons_self ..))
    have cx0_ := Blk.cell (hw_.own _ (List.mem_cons_of_mem _ (List.mem_cons_self ..))) 0 _ rfl
    have cx1_ := Blk.cell (hw_.own _ (List.mem_cons_of_mem _ (List.mem_cons_self ..))) 1 _ rfl
    have cx2_ := Blk.cell (hw_.own _ (List.mem_cons_of_mem _ (List.mem_cons_self ..))) 2 _ rfl
    have cx3_ := Blk.cell (hw_.own _ (List.mem_cons_of_mem _ (List.mem_cons_self ..))) 3 _ rfl
    have cx4_ := Blk.cell (hw_.own _ (List.mem_cons_of_mem _ (List.mem_cons_self ..))) 4 _ rfl
    have cxl_ := Blk.lt (hw_.own _ (List.mem_cons_of_mem _ (List.mem_cons_self ..)))
    have cr0_ := Blk.cell (hw_.own _ (List.mem_cons_of_mem _ (List.mem_cons_of_mem _ (List.mem_cons_self ..)))) 0 _ rfl
    have cr1_ := Blk.cell (hw_.own _ (List.mem_cons_of_mem _ (List.mem_cons_of_mem _ (List.mem_cons_self ..)))) 1 _ rfl
    have cr2_ := Blk.cell (hw_.own _ (List.mem_cons_of_mem _ (List.mem_cons_of_mem _ (List.mem_cons_self ..)))) 2 _ rfl
    have cr3_ := Blk.cell (hw_.own _ (List.mem_cons_of_mem _ (List.mem_cons_of_mem _ (List.mem_cons_self ..)))) 3 _ rfl
    have cr4_ := Blk.cell (hw_.own _ (List.mem_cons_of_mem _ (List.mem_cons_of_mem _ (List.mem_cons_self ..)))) 4 _ rfl
    have crl_ := Blk.lt (hw_.own _ (List.mem_cons_of_mem _ (List.mem_cons_of_mem _ (List.mem_cons_self ..))))
    first | (go_simp; done) | (go_simp; with_reducible rfl) | (go_simp; rw [if_neg (by first | omega | (simp; omega))])
  try simp only [Act.put, List.setIfInBounds_toArray, List.set_cons_zero, List.set_cons_succ]
  try simp only [e1, e2, e3, e4, e5, e6]
  first
   | (refine q_skip ?_ ?_
      · rfl)
   | (refine q_run ?_ ?_ ?_ ?_
      · kernel_rfl
      rotate_left
      · intro w_ hw_
        have cy0_ := Blk.cell (hw_.own _ (List.mem_cons_self ..)) 0 _ rfl
        have cy1_ := Blk.cell (hw_.own _ (List.mem_cons_self ..)) 1 _ rfl
        have cy2_ := Blk.cell (hw_.own _ (List.mem_cons_self ..)) 2 _ rfl
        have cy3_ := Blk.cell (hw_.own _ (List.mem_cons_self ..)) 3 _ rfl
        have cy4_ := Blk.cell (hw_.own _ (List.mem_cons_self ..)) 4 _ rfl
        have cyl_ := Blk.lt (hw_.own _ (List.mem_cons_self ..))
        have cx0_ := Blk.cell (hw_.own _ (List.mem_cons_of_mem _ (List.mem_cons_self ..))) 0 _ rfl
        have cx1_ := Blk.cell (hw_.own _ (List.mem_cons_of_mem _ (List.mem_cons_self ..))) 1 _ rfl
        have cx2_ := Blk.cell (hw_.own _ (List.mem_cons_of_mem _ (List.mem_cons_self ..))) 2 _ rfl
        have cx3_ := Blk.cell (hw_.own _ (List.mem_cons_of_mem _ (List.mem_cons_self ..))) 3 _ rfl
        have cx4_ := Blk.cell (hw_.own _ (List.mem_cons_of_mem _ (List.mem_cons_self ..))) 4 _ rfl
        have cxl_ := Blk.lt (hw_.own _ (List.mem_cons_of_mem _ (List.mem_cons_self ..)))
        have cr0_ := Blk.cell (hw_.own _ (List.mem_cons_of_mem _ (List.mem_cons_of_mem _ (List.mem_cons_self ..)))) 0 _ rfl
        have cr1_ := Blk.cell (hw_.own _ (List.mem_cons_of_mem _ (List.mem_cons_of_mem _ (List.mem_cons_self ..)))) 1 _ rfl
        have cr2_ := Blk.cell (hw_.own _ (List.mem_cons_of_mem _ (List.mem_cons_of_mem _ (List.mem_cons_self ..)))) 2 _ rfl
        have cr3_ := Blk.cell (hw_.own _ (List.mem_cons_of_mem _ (List.mem_cons_of_mem _ (List.mem_cons_self ..)))) 3 _ rfl
        have cr4_ := Blk.cell (hw_.own _ (List.mem_cons_of_mem _ (List.mem_cons_of_mem _ (List.mem_cons_self ..)))) 4 _ rfl
        have crl_ := Blk.lt (hw_.own _ (List.mem_cons_of_mem _ (List.mem_cons_of_mem _ (List.mem_cons_self ..))))
        first | (go_simp; done) | (go_simp; with_reducible rfl) | (go_simp; rw [if_neg (by first | omega | (simp; omega))]))
  try simp only [Act.put, List.setIfInBounds_toArray, List.set_cons_zero, List.set_cons_succ]
  try simp only [e1, e2, e3, e4, e5, e6]
  first
   | (refine q_skip ?_ ?_
      · rfl)
   | (refine q_run ?_ ?_ ?_ ?_
      · kernel_rfl
      rotate_left
      · intro w_ hw_
        have cy0_ := Blk.cell (hw_.own _ (List.mem_cons_self ..)) 0 _ rfl
        have cy1_ := Blk.cell (hw_.own _ (List.mem_cons_self ..)) 1 _ rfl
        have cy2_ := Blk.cell (hw_.own _ (List.mem_cons_self ..)) 2 _ rfl
        have cy3_ := Blk.cell (hw_.own _ (List.mem_cons_self ..)) 3 _ rfl
        have cy4_ := Blk.cell (hw_.own _ (List.mem_cons_self ..)) 4 _ rfl
        have cyl_ := Blk.lt (hw_.own _ (List.mem_cons_self ..))
        have cx0_ := Blk.cell (hw_.own _ (List.mem_cons_of_mem _ (List.mem_cons_self ..))) 0 _ rfl
        have cx1_ := Blk.cell (hw_.own _ (List.mem_cons_of_mem _ (List.mem_cons_self ..))) 1 _ rfl
        have cx2_ := Blk.cell (hw_.own _ (List.mem_cons_of_mem _ (List.mem_cons_self ..))) 2 _ rfl
        have cx3_ := Blk.cell (hw_.own _ (List.mem_cons_of_mem _ (List.mem_cons_self ..))) 3 _ rfl
        have cx4_ := Blk.cell (hw_.own _ (List.mem_cons_of_mem _ (List.mem_cons_self ..))) 4 _ rfl
        have cxl_ := Blk.lt (hw_.own _ (List.mem_cons_of_mem _ (List.mem_cons_self ..)))
        have cr0_ := Blk.cell (hw_.own _ (List.mem_cons_of_mem _ (List.mem_cons_of_mem _ (List.mem_cons_self ..)))) 0 _ rfl
        have cr1_ := Blk.cell (hw_.own _ (List.mem_cons_of_mem _ (List.mem_cons_of_mem _ (List.mem_cons_self ..)))) 1 _ rfl
        have cr2_ := Blk.cell (hw_.own _ (List.mem_cons_of_mem _ (List.mem_cons_of_mem _ (List.mem_cons_self ..)))) 2 _ rfl
        have cr3_ := Blk.cell (hw_.own _ (List.mem_cons_of_mem _ (List.mem_cons_of_mem _ (List.mem_cons_self ..)))) 3 _ rfl
        have cr4_ := Blk.cell (hw_.own _ (List.mem_cons_of_mem _ (List.mem_cons_of_mem _ (List.mem_cons_self ..)))) 4 _ rfl
        have crl_ := Blk.lt (hw_.own _ (List.mem_cons_of_mem _ (List.mem_cons_of_mem _ (List.mem_cons_self ..))))
        first | (go_simp; done) | (go_simp; with_reducible rfl) | (go_simp; rw [if_neg (by first | omega | (simp; omega))]))
  try simp only [Act.put, List.setIfInBounds_toArray, List.set_cons_zero, List.set_cons_succ]
  try simp only [e1, e2, e3, e4, e5, e6]
  first
   | (refine q_skip ?_ ?_
      · rfl)
   | (refine q_run ?_ ?_ ?_ ?_
      · kernel_rfl
      rotate_left
      · intro w_ hw_
        have cy0_ := Blk.cell (hw_.own _ (List.mem_cons_self ..)) 0 _ rfl
        have cy1_ := Blk.cell (hw_.own _ (List.mem_cons_self ..)) 1 _ rfl
        have cy2_ := Blk.cell (hw_.own _ (List.mem_cons_self ..)) 2 _ rfl
        have cy3_ := Blk.cell (hw_.own _ (List.mem_cons_self ..)) 3 _ rfl
        have cy4_ := Blk.cell (hw_.own _ (List.mem_cons_self ..)) 4 _ rfl
        have cyl_ := Blk.lt (hw_.own _ (List.mem_cons_self ..))
        have cx0_ := Blk.cell (hw_.own _ (List.mem_cons_of_mem _ (List.mem_cons_self ..))) 0 _ rfl
        have cx1_ := Blk.cell (hw_.own _ (List.mem_cons_of_mem _ (List.mem_cons_self ..))) 1 _ rfl
        have cx2_ := Blk.cell (hw_.own _ (List.mem_cons_of_mem _ (List.mem_cons_self ..))) 2 _ rfl
        have cx3_ := Blk.cell (hw_.own _ (List.mem_cons_of_mem _ (List.mem_cons_self ..))) 3 _ rfl
        have cx4_ := Blk.cell (hw_.own _ (List.mem_cons_of_mem _ (List.mem_cons_self ..))) 4 _ rfl
        have cxl_ := Blk.lt (hw_.own _ (List.mem_cons_of_mem _ (List.mem_cons_self ..)))
        have cr0_ := Blk.cell (hw_.own _ (List.mem_cons_of_mem _ (List.mem_cons_of_mem _ (List.mem_cons_self ..)))) 0 _ rfl
        have cr1_ := Blk.cell (hw_.own _ (List.mem_cons_of_mem _ (List.mem_cons_of_mem _ (List.mem_cons_self ..)))) 1 _ rfl
        have cr2_ := Blk.cell (hw_.own _ (List.mem_cons_of_mem _ (List.mem_cons_of_mem _ (List.mem_cons_self ..)))) 2 _ rfl
        have cr3_ := Blk.cell (hw_.own _ (List.mem_cons_of_mem _ (List.mem_cons_of_mem _ (List.mem_cons_self ..)))) 3 _ rfl
        have cr4_ := Blk.cell (hw_.own _ (List.mem_cons_of_mem _ (List.mem_cons_of_mem _ (List.mem_cons_self ..)))) 4 _ rfl
        have crl_ := Blk.lt (hw_.own _ (List.mem_cons_of_mem _ (List.mem_cons_of_mem _ (List.mem_cons_self ..))))
        first | (go_simp; done) | (go_simp; with_reducible rfl) | (go_simp; rw [if_neg (by first | omega | (simp; omega))]))
  try simp only [Act.put, List.setIfInBounds_toArray, List.set_cons_zero, List.set_cons_succ]
  try simp only [e1, e2, e3, e4, e5, e6]
  refine q_run ?_ ?_ ?_ ?_
  · kernel_rfl
  rotate_left
  · intro w_ hw_
    have cy0_ := Blk.cell (hw_.own _ (List.mem_cons_self ..)) 0 _ rfl
    have cy1_ := Blk.cell (hw_.own _ (List.mem_cons_self ..)) 1 _ rfl
    have cy2_ := Blk.cell (hw_.own _ (List.mem_cons_self ..)) 2 _ rfl
    have cy3_ := Blk.cell (hw_.own _ (List.mem_cons_self ..)) 3 _ rfl
    have cy4_ := Blk.cell (hw_.own _ (List.mem_cons_self ..)) 4 _ rfl
    have cyl_ := Blk.lt (hw_.own _ (List.mem_cons_self ..))
    have cx0_ := Blk.cell (hw_.own _ (List.mem_cons_of_mem _ (List.mem_cons_self ..))) 0 _ rfl
    have cx1_ := Blk.cell (hw_.own _ (List.mem_cons_of_mem _ (List.mem_cons_self ..))) 1 _ rfl
    have cx2_ := Blk.cell (hw_.own _ (List.mem_cons_of_mem _ (List.mem_cons_self ..))) 2 _ rfl
    have cx3_ := Blk.cell (hw_.own _ (List.mem_cons_of_mem _ (List.mem_cons_self ..))) 3 _ rfl
    have cx4_ := Blk.cell (hw_.own _ (List.mem_cons_of_mem _ (List.mem_cons_self ..))) 4 _ rfl
    have cxl_ := Blk.lt (hw_.own _ (List.mem_cons_of_mem _ (List.mem_cons_self ..)))
    have cr0_ := Blk.cell (hw_.own _ (List.mem_cons_of_mem _ (List.mem_cons_of_mem _ (List.mem_cons_self ..)))) 0 _ rfl
    have cr1_ := Blk.cell (hw_.own _ (List.mem_cons_of_mem _ (List.mem_cons_of_mem _ (List.mem_cons_self ..)))) 1 _ rfl
    have cr2_ := Blk.cell (hw_.own _ (List.mem_cons_of_mem _ (List.mem_cons_of_mem _ (List.mem_cons_self ..)))) 2 _ rfl
    have cr3_ := Blk.cell (hw_.own _ (List.mem_cons_of_mem _ (List.mem_cons_of_mem _ (List.mem_cons_self ..)))) 3 _ rfl
    have cr4_ := Blk.cell (hw_.own _ (List.mem_cons_of_mem _ (List.mem_cons_of_mem _ (List.mem_cons_self ..)))) 4 _ rfl
    have crl_ := Blk.lt (hw_.own _ (List.mem_cons_of_mem _ (List.mem_cons_of_mem _ (List.mem_cons_self ..))))
    first | (go_simp; done) | (go_simp; with_reducible rfl) | (go_simp; rw [if_neg (by first | omega | (simp; omega))])
  try simp only [Act.put, List.setIfInBounds_toArray, List.set_cons_zero, List.set_cons_succ]
  try simp only [e1, e2, e3, e4, e5, e6]
  refine q_run ?_ ?_ ?_ ?_
  · kernel_rfl
  rotate_left
  · intro w_ hw_
    have cy0_ := Blk.cell (hw_.own _ (List.mem_cons_self ..)) 0 _ rfl
    have cy1_ := Blk.cell (hw_.own _ (List.mem_cons_self ..)) 1 _ rfl
    have cy2_ := Blk.cell (hw_.own _ (List.mem_cons_self ..)) 2 _ rfl
    have cy3_ := Blk.cell (hw_.own _ (List.mem_cons_self ..)) 3 _ rfl
    have cy4_ := Blk.cell (hw_.own _ (List.mem_cons_self ..)) 4 _ rfl
    have cyl_ := Blk.lt (hw_.own _ (List.mem_cons_self ..))
    have cx0_ := Blk.cell (hw_.own _ (List.mem_cons_of_mem _ (List.mem_cons_self ..))) 0 _ rfl
    have cx1_ := Blk.cell (hw_.own _ (List.mem_cons_of_mem _ (List.mem_cons_self ..))) 1 _ rfl
    have cx2_ := Blk.cell (hw_.own _ (List.mem_cons_of_mem _ (List.mem_cons_self ..))) 2 _ rfl
    have cx3_ := Blk.cell (hw_.own _ (List.mem_cons_of_mem _ (List.mem_cons_self ..))) 3 _ rfl
    have cx4_ := Blk.cell (hw_.own _ (List.mem_cons_of_mem _ (List.mem_cons_self ..))) 4 _ rfl
    have cxl_ := Blk.lt (hw_.own _ (List.mem_cons_of_mem _ (List.mem_cons_self ..)))
    have cr0_ := Blk.cell (hw_.own _ (List.mem_cons_of_mem _ (List.mem_cons_of_mem _ (List.mem_cons_self ..)))) 0 _ rfl
    have cr1_ := Blk.cell (hw_.own _ (List.mem_cons_of_mem _ (List.mem_cons_of_mem _ (List.mem_cons_self ..)))) 1 _ rfl
    have cr2_ := Blk.cell (hw_.own _ (List.mem_cons_of_mem _ (List.mem_cons_of_mem _ (List.mem_cons_self ..)))) 2 _ rfl
    have cr3_ := Blk.cell (hw_.own _ (List.mem_cons_of_mem _ (List.mem_cons_of_mem _ (List.mem_cons_self ..)))) 3 _ rfl
    have cr4_ := Blk.cell (hw_.own _ (List.mem_cons_of_mem _ (List.mem_cons_of_mem _ (List.mem_cons_self ..)))) 4 _ rfl
    have crl_ := Blk.lt (hw_.own _ (List.mem_cons_of_mem _ (List.mem_cons_of_mem _ (List.mem_cons_self ..))))
    first | (go_simp; done) | (go_simp; with_reducible rfl) | (go_simp; rw [if_neg (by first | omega | (simp; omega))])
  try simp only [Act.put, List.setIfInBounds_toArray, List.set_cons_zero, List.set_cons_succ]
  try simp only [e1, e2, e3, e4, e5, e6]
  first
   | (refine q_skip ?_ ?_
      · rfl)
   | (refine q_row ?_ _ _ rfl w.heap.size 0 ?_ [.int .i64 code, .int .i64 a, .int .i64 b, .int .i64 c, .slice A m cp] _ ?_ Tryd.underlying25 rfl (by kernel_rfl) ?_
      · kernel_rfl
      · rfl
      · intro w_ hw_
        have cy0_ := Blk.cell (hw_.own _ (List.mem_cons_self ..)) 0 _ rfl
        have cy1_ := Blk.cell (hw_.own _ (List.mem_cons_self ..)) 1 _ rfl
        have cy2_ := Blk.cell (hw_.own _ (List.mem_cons_self ..)) 2 _ rfl
        have cy3_ := Blk.cell (hw_.own _ (List.mem_cons_self ..)) 3 _ rfl
        have cy4_ := Blk.cell (hw_.own _ (List.mem_cons_self ..)) 4 _ rfl
        have cyl_ := Blk.lt (hw_.own _ (List.mem_cons_self ..))
        have cx0_ := Blk.cell (hw_.own _ (List.mem_cons_of_mem _ (List.mem_cons_self ..))) 0 _ rfl
        have cx1_ := Blk.cell (hw_.own _ (List.mem_cons_of_mem _ (List.mem_cons_self ..))) 1 _ rfl
        have cx2_ := Blk.cell (hw_.own _ (List.mem_cons_of_mem _ (List.mem_cons_self ..))) 2 _ rfl
        have cx3_ := Blk.cell (hw_.own _ (List.mem_cons_of_mem _ (List.mem_cons_self ..))) 3 _ rfl
        have cx4_ := Blk.cell (hw_.own _ (List.mem_cons_of_mem _ (List.mem_cons_self ..))) 4 _ rfl
        have cxl_ := Blk.lt (hw_.own _ (List.mem_cons_of_mem _ (List.mem_cons_self ..)))
        have cr0_ := Blk.cell (hw_.own _ (List.mem_cons_of_mem _ (List.mem_cons_of_mem _ (List.mem_cons_self ..)))) 0 _ rfl
        have cr1_ := Blk.cell (hw_.own _ (List.mem_cons_of_mem _ (List.mem_cons_of_mem _ (List.mem_cons_self ..)))) 1 _ rfl
        have cr2_ := Blk.cell (hw_.own _ (List.mem_cons_of_mem _ (List.mem_cons_of_mem _ (List.mem_cons_self ..)))) 2 _ rfl
        have cr3_ := Blk.cell (hw_.own _ (List.mem_cons_of_mem _ (List.mem_cons_of_mem _ (List.mem_cons_self ..)))) 3 _ rfl
        have cr4_ := Blk.cell (hw_.own _ (List.mem_cons_of_mem _ (List.mem_cons_of_mem _ (List.mem_cons_self ..)))) 4 _ rfl
        have crl_ := Blk.lt (hw_.own _ (List.mem_cons_of_mem _ (List.mem_cons_of_mem _ (List.mem_cons_self ..))))
        intro j_ v_ hv_
        match j_, hv_ with
        | 0, hv_ => (simp at hv_; subst hv_; first | assumption | (simpa using c0))
        | 1, hv_ => (simp at hv_; subst hv_; first | assumption | (simpa using c1))
        | 2, hv_ => (simp at hv_; subst hv_; first | assumption | (simpa using c2))
        | 3, hv_ => (simp at hv_; subst hv_; first | assumption | (simpa using c3))
        | 4, hv_ => (simp at hv_; subst hv_; first | assumption | (simpa using c4)))
  try simp only [Act.put, List.setIfInBounds_toArray, List.set_cons_zero, List.set_cons_succ]
  try simp only [e1, e2, e3, e4, e5, e6]
  first
   | (refine q_skip ?_ ?_
      · rfl)
   | (refine q_call ?_ (.int .i64 (Rp.right code a b c t)) ?_ ?_ ?_ ?_ ?_
      · kernel_rfl
      rotate_left 2
      · intro w_ hw_
        go_simp
        refine ⟨?_, ?_⟩ <;> with_reducible rfl
      · intro w_ hw_
        have cy0_ := Blk.cell (hw_.own _ (List.mem_cons_self ..)) 0 _ rfl
        have cy1_ := Blk.cell (hw_.own _ (List.mem_cons_self ..)) 1 _ rfl
        have cy2_ := Blk.cell (hw_.own _ (List.mem_cons_self ..)) 2 _ rfl
        have cy3_ := Blk.cell (hw_.own _ (List.mem_cons_self ..)) 3 _ rfl
        have cy4_ := Blk.cell (hw_.own _ (List.mem_cons_self ..)) 4 _ rfl
        have cyl_ := Blk.lt (hw_.own _ (List.mem_cons_self ..))
        have cx0_ := Blk.cell (hw_.own _ (List.mem_cons_of_mem _ (List.mem_cons_self ..))) 0 _ rfl
        have cx1_ := Blk.cell (hw_.own _ (List.mem_cons_of_mem _ (List.mem_cons_self ..))) 1 _ rfl
        have cx2_ := Blk.cell (hw_.own _ (List.mem_cons_of_mem _ (List.mem_cons_self ..))) 2 _ rfl
        have cx3_ := Blk.cell (hw_.own _ (List.mem_cons_of_mem _ (List.mem_cons_self ..))) 3 _ rfl
        have cx4_ := Blk.cell (hw_.own _ (List.mem_cons_of_mem _ (List.mem_cons_self ..))) 4 _ rfl
        have cxl_ := Blk.lt (hw_.own _ (List.mem_cons_of_mem _ (List.mem_cons_self ..)))
        have cr0_ := Blk.cell (hw_.own _ (List.mem_cons_of_mem _ (List.mem_cons_of_mem _ (List.mem_cons_self ..)))) 0 _ rfl
        have cr1_ := Blk.cell (hw_.own _ (List.mem_cons_of_mem _ (List.mem_cons_of_mem _ (List.mem_cons_self ..)))) 1 _ rfl
        have cr2_ := Blk.cell (hw_.own _ (List.mem_cons_of_mem _ (List.mem_cons_of_mem _ (List.mem_cons_self ..)))) 2 _ rfl
        have cr3_ := Blk.cell (hw_.own _ (List.mem_cons_of_mem _ (List.mem_cons_of_mem _ (List.mem_cons_self ..)))) 3 _ rfl
        have cr4_ := Blk.cell (hw_.own _ (List.mem_cons_of_mem _ (List.mem_cons_of_mem _ (List.mem_cons_self ..)))) 4 _ rfl
        have crl_ := Blk.lt (hw_.own _ (List.mem_cons_of_mem _ (List.mem_cons_of_mem _ (List.mem_cons_self ..))))
        exact (right_m code a b c A m cp t hm _ (hE.next hw_.low) (hw_.textm (by simp)) Hz.out (by omega) a0 a1 b0 b1 c0 c1).mono fun _ _ ⟨h1_, h2_⟩ => ⟨h1_, hw_.next h2_⟩)
  try simp only [Act.put, List.setIfInBounds_toArray, List.set_cons_zero, List.set_cons_succ]
  try simp only [e1, e2, e3, e4, e5, e6]
  first
   | (refine q_skip ?_ ?_
      · rfl)
   | (refine q_row ?_ _ _ rfl w.heap.size 0 ?_ [.int .i64 code, .int .i64 a, .int .i64 b, .int .i64 c, .slice A m cp] _ ?_ Tryd.underlying25 rfl (by kernel_rfl) ?_
      · kernel_rfl
      · rfl
      · intro w_ hw_
        have cy0_ := Blk.cell (hw_.own _ (List.mem_cons_self ..)) 0 _ rfl
        have cy1_ := Blk.cell (hw_.own _ (List.mem_cons_self ..)) 1 _ rfl
        have cy2_ := Blk.cell (hw_.own _ (List.mem_cons_self ..)) 2 _ rfl
        have cy3_ := Blk.cell (hw_.own _ (List.mem_cons_self ..)) 3 _ rfl
        have cy4_ := Blk.cell (hw_.own _ (List.mem_cons_self ..)) 4 _ rfl
        have cyl_ := Blk.lt (hw_.own _ (List.mem_cons_self ..))
        have cx0_ := Blk.cell (hw_.own _ (List.mem_cons_of_mem _ (List.mem_cons_self ..))) 0 _ rfl
        have cx1_ := Blk.cell (hw_.own _ (List.mem_cons_of_mem _ (List.mem_cons_self ..))) 1 _ rfl
        have cx2_ := Blk.cell (hw_.own _ (List.mem_cons_of_mem _ (List.mem_cons_self ..))) 2 _ rfl
        have cx3_ := Blk.cell (hw_.own _ (List.mem_cons_of_mem _ (List.mem_cons_self ..))) 3 _ rfl
        have cx4_ := Blk.cell (hw_.own _ (List.mem_cons_of_mem _ (List.mem_cons_self ..))) 4 _ rfl
        have cxl_ := Blk.lt (hw_.own _ (List.mem_cons_of_mem _ (List.mem_cons_self ..)))
        have cr0_ := Blk.cell (hw_.own _ (List.mem_cons_of_mem _ (List.mem_cons_of_mem _ (List.mem_cons_self ..)))) 0 _ rfl
        have cr1_ := Blk.cell (hw_.own _ (List.mem_cons_of_mem _ (List.mem_cons_of_mem _ (List.mem_cons_self ..)))) 1 _ rfl
        have cr2_ := Blk.cell (hw_.own _ (List.mem_cons_of_mem _ (List.mem_cons_of_mem _ (List.mem_cons_self ..)))) 2 _ rfl
        have cr3_ := Blk.cell (hw_.own _ (List.mem_cons_of_mem _ (List.mem_cons_of_mem _ (List.mem_cons_self ..)))) 3 _ rfl
        have cr4_ := Blk.cell (hw_.own _ (List.mem_cons_of_mem _ (List.mem_cons_of_mem _ (List.mem_cons_self ..)))) 4 _ rfl
        have crl_ := Blk.lt (hw_.own _ (List.mem_cons_of_mem _ (List.mem_cons_of_mem _ (List.mem_cons_self ..))))
        intro j_ v_ hv_
        match j_, hv_ with
        | 0, hv_ => (simp at hv_; subst hv_; first | assumption | (simpa using c0))
        | 1, hv_ => (simp at hv_; subst hv_; first | assumption | (simpa using c1))
        | 2, hv_ => (simp at hv_; subst hv_; first | assumption | (simpa using c2))
        | 3, hv_ => (simp at hv_; subst hv_; first | assumption | (simpa using c3))
        | 4, hv_ => (simp at hv_; subst hv_; first | assumption | (simpa using c4)))
  try simp only [Act.put, List.setIfInBounds_toArray, List.set_cons_zero, List.set_cons_succ]
  try simp only [e1, e2, e3, e4, e5, e6]
  first
   | (refine q_skip ?_ ?_
      · rfl)
   | (refine q_call ?_ (.int .i64 (Rp.right code a b c t)) ?_ ?_ ?_ ?_ ?_
      · kernel_rfl
      rotate_left 2
      · intro w_ hw_
        go_simp
        refine ⟨?_, ?_⟩ <;> with_reducible rfl
      · intro w_ hw_
        have cy0_ := Blk.cell (hw_.own _ (List.mem_cons_self ..)) 0 _ rfl
        have cy1_ := Blk.cell (hw_.own _ (List.mem_cons_self ..)) 1 _ rfl
        have cy2_ := Blk.cell (hw_.own _ (List.mem_cons_self ..)) 2 _ rfl
        have cy3_ := Blk.cell (hw_.own _ (List.mem_cons_self ..)) 3 _ rfl
        have cy4_ := Blk.cell (hw_.own _ (List.mem_cons_self ..)) 4 _ rfl
        have cyl_ := Blk.lt (hw_.own _ (List.mem_cons_self ..))
        have cx0_ := Blk.cell (hw_.own _ (List.mem_cons_of_mem _ (List.mem_cons_self ..))) 0 _ rfl
        have cx1_ := Blk.cell (hw_.own _ (List.mem_cons_of_mem _ (List.mem_cons_self ..))) 1 _ rfl
        have cx2_ := Blk.cell (hw_.own _ (List.mem_cons_of_mem _ (List.mem_cons_self ..))) 2 _ rfl
        have cx3_ := Blk.cell (hw_.own _ (List.mem_cons_of_mem _ (List.mem_cons_self ..))) 3 _ rfl
        have cx4_ := Blk.cell (hw_.own _ (List.mem_cons_of_mem _ (List.mem_cons_self ..))) 4 _ rfl
        have cxl_ := Blk.lt (hw_.own _ (List.mem_cons_of_mem _ (List.mem_cons_self ..)))
        have cr0_ := Blk.cell (hw_.own _ (List.mem_cons_of_mem _ (List.mem_cons_of_mem _ (List.mem_cons_self ..)))) 0 _ rfl
        have cr1_ := Blk.cell (hw_.own _ (List.mem_cons_of_mem _ (List.mem_cons_of_mem _ (List.mem_cons_self ..)))) 1 _ rfl
        have cr2_ := Blk.cell (hw_.own _ (List.mem_cons_of_mem _ (List.mem_cons_of_mem _ (List.mem_cons_self ..)))) 2 _ rfl
        have cr3_ := Blk.cell (hw_.own _ (List.mem_cons_of_mem _ (List.mem_cons_of_mem _ (List.mem_cons_self ..)))) 3 _ rfl
        have cr4_ := Blk.cell (hw_.own _ (List.mem_cons_of_mem _ (List.mem_cons_of_mem _ (List.mem_cons_self ..)))) 4 _ rfl
        have crl_ := Blk.lt (hw_.own _ (List.mem_cons_of_mem _ (List.mem_cons_of_mem _ (List.mem_cons_self ..))))
        exact (rright_any code a b c A m cp t hm _ (hw_.textm (by simp)) Hy.out (by omega)).mono fun _ _ ⟨h1_, h2_⟩ => ⟨h1_, hw_.next h2_⟩)
  try simp only [Act.put, List.setIfInBounds_toArray, List.set_cons_zero, List.set_cons_succ]
  try simp only [e1, e2, e3, e4, e5, e6]
  first
   | (refine q_skip ?_ ?_
      · rfl)
   | (refine q_run ?_ ?_ ?_ ?_
      · kernel_rfl
      rotate_left
      · intro w_ hw_
        have cy0_ := Blk.cell (hw_.own _ (List.mem_cons_self ..)) 0 _ rfl
        have cy1_ := Blk.cell (hw_.own _ (List.mem_cons_self ..)) 1 _ rfl
        have cy2_ := Blk.cell (hw_.own _ (List.mem_cons_self ..)) 2 _ rfl
        have cy3_ := Blk.cell (hw_.own _ (List.mem_cons_self ..)) 3 _ rfl
        have cy4_ := Blk.cell (hw_.own _ (List.mem_cons_self ..)) 4 _ rfl
        have cyl_ := Blk.lt (hw_.own _ (List.mem_cons_self ..))
        have cx0_ := Blk.cell (hw_.own _ (List.mem_cons_of_mem _ (List.mem_cons_self ..))) 0 _ rfl
        have cx1_ := Blk.cell (hw_.own _ (List.mem_cons_of_mem _ (List.mem_cons_self ..))) 1 _ rfl
        have cx2_ := Blk.cell (hw_.own _ (List.mem_cons_of_mem _ (List.mem_cons_self ..))) 2 _ rfl
        have cx3_ := Blk.cell (hw_.own _ (List.mem_cons_of_mem _ (List.mem_cons_self ..))) 3 _ rfl
        have cx4_ := Blk.cell (hw_.own _ (List.mem_cons_of_mem _ (List.mem_cons_self ..))) 4 _ rfl
        have cxl_ := Blk.lt (hw_.own _ (List.mem_cons_of_mem _ (List.mem_cons_self ..)))
        have cr0_ := Blk.cell (hw_.own _ (List.mem_cons_of_mem _ (List.mem_cons_of_mem _ (List.mem_cons_self ..)))) 0 _ rfl
        have cr1_ := Blk.cell (hw_.own _ (List.mem_cons_of_mem _ (List.mem_cons_of_mem _ (List.mem_cons_self ..)))) 1 _ rfl
        have cr2_ := Blk.cell (hw_.own _ (List.mem_cons_of_mem _ (List.mem_cons_of_mem _ (List.mem_cons_self ..)))) 2 _ rfl
        have cr3_ := Blk.cell (hw_.own _ (List.mem_cons_of_mem _ (List.mem_cons_of_mem _ (List.mem_cons_self ..)))) 3 _ rfl
        have cr4_ := Blk.cell (hw_.own _ (List.mem_cons_of_mem _ (List.mem_cons_of_mem _ (List.mem_cons_self ..)))) 4 _ rfl
        have crl_ := Blk.lt (hw_.own _ (List.mem_cons_of_mem _ (List.mem_cons_of_mem _ (List.mem_cons_self ..))))
        first | (go_simp; done) | (go_simp; with_reducible rfl) | (go_simp; rw [if_neg (by first | omega | (simp; omega))]))
  try simp only [Act.put, List.setIfInBounds_toArray, List.set_cons_zero, List.set_cons_succ]
  try simp only [e1, e2, e3, e4, e5, e6]
  refine q_run ?_ ?_ ?_ ?_
  · kernel_rfl
  rotate_left
  · intro w_ hw_
    have cy0_ := Blk.cell (hw_.own _ (List.mem_cons_self ..)) 0 _ rfl
    have cy1_ := Blk.cell (hw_.own _ (List.mem_cons_self ..)) 1 _ rfl
    have cy2_ := Blk.cell (hw_.own _ (List.mem_cons_self ..)) 2 _ rfl
    have cy3_ := Blk.cell (hw_.own _ (List.mem_cons_self ..)) 3 _ rfl
    have cy4_ := Blk.cell (hw_.own _ (List.mem_cons_self ..)) 4 _ rfl
    have cyl_ := Blk.lt (hw_.own _ (List.mem_cons_self ..))
    have cx0_ := Blk.cell (hw_.own _ (List.mem_cons_of_mem _ (List.mem_cons_self ..))) 0 _ rfl
    have cx1_ := Blk.cell (hw_.own _ (List.mem_cons_of_mem _ (List.mem_cons_self ..))) 1 _ rfl
    have cx2_ := Blk.cell (hw_.own _ (List.mem_cons_of_mem _ (List.mem_cons_self ..))) 2 _ rfl
    have cx3_ := Blk.cell (hw_.own _ (List.mem_cons_of_mem _ (List.mem_cons_self ..))) 3 _ rfl
    have cx4_ := Blk.cell (hw_.own _ (List.mem_cons_of_mem _ (List.mem_cons_self ..))) 4 _ rfl
    have cxl_ := Blk.lt (hw_.own _ (List.mem_cons_of_mem _ (List.mem_cons_self ..)))
    have cr0_ := Blk.cell (hw_.own _ (List.mem_cons_of_mem _ (List.mem_cons_of_mem _ (List.mem_cons_self ..)))) 0 _ rfl
    have cr1_ := Blk.cell (hw_.own _ (List.mem_cons_of_mem _ (List.mem_cons_of_mem _ (List.mem_cons_self ..)))) 1 _ rfl
    have cr2_ := Blk.cell (hw_.own _ (List.mem_cons_of_mem _ (List.mem_cons_of_mem _ (List.mem_cons_self ..)))) 2 _ rfl
    have cr3_ := Blk.cell (hw_.own _ (List.mem_cons_of_mem _ (List.mem_cons_of_mem _ (List.mem_cons_self ..)))) 3 _ rfl
    have cr4_ := Blk.cell (hw_.own _ (List.mem_cons_of_mem _ (List.mem_cons_of_mem _ (List.mem_cons_self ..)))) 4 _ rfl
    have crl_ := Blk.lt (hw_.own _ (List.mem_cons_of_mem _ (List.mem_cons_of_mem _ (List.mem_cons_self ..))))
    first | (go_simp; done) | (go_simp; with_reducible rfl) | (go_simp; rw [if_neg (by first | omega | (simp; omega))])
  try simp only [Act.put, List.setIfInBounds_toArray, List.set_cons_zero, List.set_cons_succ]
  try simp only [e1, e2, e3, e4, e5, e6]
  refine q_run ?_ ?_ ?_ ?_
  · kernel_rfl
  rotate_left
  · intro w_ hw_
    have cy0_ := Blk.cell (hw_.own _ (List.mem_cons_self ..)) 0 _ rfl
    have cy1_ := Blk.cell (hw_.own _ (List.mem_cons_self ..)) 1 _ rfl
    have cy2_ := Blk.cell (hw_.own _ (List.mem_cons_self ..)) 2 _ rfl
    have cy3_ := Blk.cell (hw_.own _ (List.mem_cons_self ..)) 3 _ rfl
    have cy4_ := Blk.cell (hw_.own _ (List.mem_cons_self ..)) 4 _ rfl
    have cyl_ := Blk.lt (hw_.own _ (List.mem_cons_self ..))
    have cx0_ := Blk.cell (hw_.own _ (List.mem_cons_of_mem _ (List.mem_cons_self ..))) 0 _ rfl
    have cx1_ := Blk.cell (hw_.own _ (List.mem_cons_of_mem _ (List.mem_cons_self ..))) 1 _ rfl
    have cx2_ := Blk.cell (hw_.own _ (List.mem_cons_of_mem _ (List.mem_cons_self ..))) 2 _ rfl
    have cx3_ := Blk.cell (hw_.own _ (List.mem_cons_of_mem _ (List.mem_cons_self ..))) 3 _ rfl
    have cx4_ := Blk.cell (hw_.own _ (List.mem_cons_of_mem _ (List.mem_cons_self ..))) 4 _ rfl
    have cxl_ := Blk.lt (hw_.own _ (List.mem_cons_of_mem _ (List.mem_cons_self ..)))
    have cr0_ := Blk.cell (hw_.own _ (List.mem_cons_of_mem _ (List.mem_cons_of_mem _ (List.mem_cons_self ..)))) 0 _ rfl
    have cr1_ := Blk.cell (hw_.own _ (List.mem_cons_of_mem _ (List.mem_cons_of_mem _ (List.mem_cons_self ..)))) 1 _ rfl
    have cr2_ := Blk.cell (hw_.own _ (List.mem_cons_of_mem _ (List.mem_cons_of_mem _ (List.mem_cons_self ..)))) 2 _ rfl
    have cr3_ := Blk.cell (hw_.own _ (List.mem_cons_of_mem _ (List.mem_cons_of_mem _ (List.mem_cons_self ..)))) 3 _ rfl
    have cr4_ := Blk.cell (hw_.own _ (List.mem_cons_of_mem _ (List.mem_cons_of_mem _ (List.mem_cons_self ..)))) 4 _ rfl
    have crl_ := Blk.lt (hw_.own _ (List.mem_cons_of_mem _ (List.mem_cons_of_mem _ (List.mem_cons_self ..))))
    first | (go_simp; done) | (go_simp; with_reducible rfl) | (go_simp; rw [if_neg (by first | omega | (simp; omega))])
  try simp only [Act.put, List.setIfInBounds_toArray, List.set_cons_zero, List.set_cons_succ]
  try simp only [e1, e2, e3, e4, e5, e6]
  first
   | (refine q_skip ?_ ?_
      · rfl)
   | (refine q_run ?_ ?_ ?_ ?_
      · kernel_rfl
      rotate_left
      · intro w_ hw_
        have cy0_ := Blk.cell (hw_.own _ (List.mem_cons_self ..)) 0 _ rfl
        have cy1_ := Blk.cell (hw_.own _ (List.mem_cons_self ..)) 1 _ rfl
        have cy2_ := Blk.cell (hw_.own _ (List.mem_cons_self ..)) 2 _ rfl
        have cy3_ := Blk.cell (hw_.own _ (List.mem_cons_self ..)) 3 _ rfl
        have cy4_ := Blk.cell (hw_.own _ (List.mem_cons_self ..)) 4 _ rfl
        have cyl_ := Blk.lt (hw_.own _ (List.mem_cons_self ..))
        have cx0_ := Blk.cell (hw_.own _ (List.mem_cons_of_mem _ (List.mem_cons_self ..))) 0 _ rfl
        have cx1_ := Blk.cell (hw_.own _ (List.mem_cons_of_mem _ (List.mem_cons_self ..))) 1 _ rfl
        have cx2_ := Blk.cell (hw_.own _ (List.mem_cons_of_mem _ (List.mem_cons_self ..))) 2 _ rfl
        have cx3_ := Blk.cell (hw_.own _ (List.mem_cons_of_mem _ (List.mem_cons_self ..))) 3 _ rfl
        have cx4_ := Blk.cell (hw_.own _ (List.mem_cons_of_mem _ (List.mem_cons_self ..))) 4 _ rfl
        have cxl_ := Blk.lt (hw_.own _ (List.mem_cons_of_mem _ (List.mem_cons_self ..)))
        have cr0_ := Blk.cell (hw_.own _ (List.mem_cons_of_mem _ (List.mem_cons_of_mem _ (List.mem_cons_self ..)))) 0 _ rfl
        have cr1_ := Blk.cell (hw_.own _ (List.mem_cons_of_mem _ (List.mem_cons_of_mem _ (List.mem_cons_self ..)))) 1 _ rfl
        have cr2_ := Blk.cell (hw_.own _ (List.mem_cons_of_mem _ (List.mem_cons_of_mem _ (List.mem_cons_self ..)))) 2 _ rfl
        have cr3_ := Blk.cell (hw_.own _ (List.mem_cons_of_mem _ (List.mem_cons_of_mem _ (List.mem_cons_self ..)))) 3 _ rfl
        have cr4_ := Blk.cell (hw_.own _ (List.mem_cons_of_mem _ (List.mem_cons_of_mem _ (List.mem_cons_self ..)))) 4 _ rfl
        have crl_ := Blk.lt (hw_.own _ (List.mem_cons_of_mem _ (List.mem_cons_of_mem _ (List.mem_cons_self ..))))
        first | (go_simp; done) | (go_simp; with_reducible rfl) | (go_simp; rw [if_neg (by first | omega | (simp; omega))]))
  try simp only [Act.put, List.setIfInBounds_toArray, List.set_cons_zero, List.set_cons_succ]
  try simp only [e1, e2, e3, e4, e5, e6]
  first
   | (refine q_skip ?_ ?_
      · rfl)
   | (refine q_run ?_ ?_ ?_ ?_
      · kernel_rfl
      rotate_left
      · intro w_ hw_
        have cy0_ := Blk.cell (hw_.own _ (List.mem_cons_self ..)) 0 _ rfl
        have cy1_ := Blk.cell (hw_.own _ (List.mem_cons_self ..)) 1 _ rfl
        have cy2_ := Blk.cell (hw_.own _ (List.mem_cons_self ..)) 2 _ rfl
        have cy3_ := Blk.cell (hw_.own _ (List.mem_cons_self ..)) 3 _ rfl
        have cy4_ := Blk.cell (hw_.own _ (List.mem_cons_self ..)) 4 _ rfl
        have cyl_ := Blk.lt (hw_.own _ (List.mem_cons_self ..))
        have cx0_ := Blk.cell (hw_.own _ (List.mem_cons_of_mem _ (List.mem_cons_self ..))) 0 _ rfl
        have cx1_ := Blk.cell (hw_.own _ (List.mem_cons_of_mem _ (List.mem_cons_self ..))) 1 _ rfl
        have cx2_ := Blk.cell (hw_.own _ (List.mem_cons_of_mem _ (List.mem_cons_self ..))) 2 _ rfl
        have cx3_ := Blk.cell (hw_.own _ (List.mem_cons_of_mem _ (List.mem_cons_self ..))) 3 _ rfl
        have cx4_ := Blk.cell (hw_.own _ (List.mem_cons_of_mem _ (List.mem_cons_self ..))) 4 _ rfl
        have cxl_ := Blk.lt (hw_.own _ (List.mem_cons_of_mem _ (List.mem_cons_self ..)))
        have cr0_ := Blk.cell (hw_.own _ (List.mem_cons_of_mem _ (List.mem_cons_of_mem _ (List.mem_cons_self ..)))) 0 _ rfl
        have cr1_ := Blk.cell (hw_.own _ (List.mem_cons_of_mem _ (List.mem_cons_of_mem _ (List.mem_cons_self ..)))) 1 _ rfl
        have cr2_ := Blk.cell (hw_.own _ (List.mem_cons_of_mem _ (List.mem_cons_of_mem _ (List.mem_cons_self ..)))) 2 _ rfl
        have cr3_ := Blk.cell (hw_.own _ (List.mem_cons_of_mem _ (List.mem_cons_of_mem _ (List.mem_cons_self ..)))) 3 _ rfl
        have cr4_ := Blk.cell (hw_.own _ (List.mem_cons_of_mem _ (List.mem_cons_of_mem _ (List.mem_cons_self ..)))) 4 _ rfl
        have crl_ := Blk.lt (hw_.own _ (List.mem_cons_of_mem _ (List.mem_cons_of_mem _ (List.mem_cons_self ..))))
        first | (go_simp; done) | (go_simp; with_reducible rfl) | (go_simp; rw [if_neg (by first | omega | (simp; omega))]))
  try simp only [Act.put, List.setIfInBounds_toArray, List.set_cons_zero, List.set_cons_succ]
  try simp only [e1, e2, e3, e4, e5, e6]
  first
   | (refine q_skip ?_ ?_
      · rfl)
   | (refine q_call ?_ (.int .i64 (Rp.cls code)) ?_ ?_ ?_ ?_ ?_
      · kernel_rfl
      rotate_left 2
      · intro w_ hw_
        go_simp
        refine ⟨?_, ?_⟩ <;> with_reducible rfl
      · intro w_ hw_
        have cy0_ := Blk.cell (hw_.own _ (List.mem_cons_self ..)) 0 _ rfl
        have cy1_ := Blk.cell (hw_.own _ (List.mem_cons_self ..)) 1 _ rfl
        have cy2_ := Blk.cell (hw_.own _ (List.mem_cons_self ..)) 2 _ rfl
        have cy3_ := Blk.cell (hw_.own _ (List.mem_cons_self ..)) 3 _ rfl
        have cy4_ := Blk.cell (hw_.own _ (List.mem_cons_self ..)) 4 _ rfl
        have cyl_ := Blk.lt (hw_.own _ (List.mem_cons_self ..))
        have cx0_ := Blk.cell (hw_.own _ (List.mem_cons_of_mem _ (List.mem_cons_self ..))) 0 _ rfl
        have cx1_ := Blk.cell (hw_.own _ (List.mem_cons_of_mem _ (List.mem_cons_self ..))) 1 _ rfl
        have cx2_ := Blk.cell (hw_.own _ (List.mem_cons_of_mem _ (List.mem_cons_self ..))) 2 _ rfl
        have cx3_ := Blk.cell (hw_.own _ (List.mem_cons_of_mem _ (List.mem_cons_self ..))) 3 _ rfl
        have cx4_ := Blk.cell (hw_.own _ (List.mem_cons_of_mem _ (List.mem_cons_self ..))) 4 _ rfl
        have cxl_ := Blk.lt (hw_.own _ (List.mem_cons_of_mem _ (List.mem_cons_self ..)))
        have cr0_ := Blk.cell (hw_.own _ (List.mem_cons_of_mem _ (List.mem_cons_of_mem _ (List.mem_cons_self ..)))) 0 _ rfl
        have cr1_ := Blk.cell (hw_.own _ (List.mem_cons_of_mem _ (List.mem_cons_of_mem _ (List.mem_cons_self ..)))) 1 _ rfl
        have cr2_ := Blk.cell (hw_.own _ (List.mem_cons_of_mem _ (List.mem_cons_of_mem _ (List.mem_cons_self ..)))) 2 _ rfl
        have cr3_ := Blk.cell (hw_.own _ (List.mem_cons_of_mem _ (List.mem_cons_of_mem _ (List.mem_cons_self ..)))) 3 _ rfl
        have cr4_ := Blk.cell (hw_.own _ (List.mem_cons_of_mem _ (List.mem_cons_of_mem _ (List.mem_cons_self ..)))) 4 _ rfl
        have crl_ := Blk.lt (hw_.own _ (List.mem_cons_of_mem _ (List.mem_cons_of_mem _ (List.mem_cons_self ..))))
        exact (class_any _ _).mono fun _ _ ⟨h1_, h2_⟩ => ⟨h1_, h2_ ▸ hw_⟩)
  try simp only [Act.put, List.setIfInBounds_toArray, List.set_cons_zero, List.set_cons_succ]
  try simp only [e1, e2, e3, e4, e5, e6]
  first
   | (refine q_skip ?_ ?_
      · rfl)
   | (refine q_run ?_ ?_ ?_ ?_
      · kernel_rfl
      rotate_left
      · intro w_ hw_
        have cy0_ := Blk.cell (hw_.own _ (List.mem_cons_self ..)) 0 _ rfl
        have cy1_ := Blk.cell (hw_.own _ (List.mem_cons_self ..)) 1 _ rfl
        have cy2_ := Blk.cell (hw_.own _ (List.mem_cons_self ..)) 2 _ rfl
        have cy3_ := Blk.cell (hw_.own _ (List.mem_cons_self ..)) 3 _ rfl
        have cy4_ := Blk.cell (hw_.own _ (List.mem_cons_self ..)) 4 _ rfl
        have cyl_ := Blk.lt (hw_.own _ (List.mem_cons_self ..))
        have cx0_ := Blk.cell (hw_.own _ (List.mem_cons_of_mem _ (List.mem_cons_self ..))) 0 _ rfl
        have cx1_ := Blk.cell (hw_.own _ (List.mem_cons_of_mem _ (List.mem_cons_self ..))) 1 _ rfl
        have cx2_ := Blk.cell (hw_.own _ (List.mem_cons_of_mem _ (List.mem_cons_self ..))) 2 _ rfl
        have cx3_ := Blk.cell (hw_.own _ (List.mem_cons_of_mem _ (List.mem_cons_self ..))) 3 _ rfl
        have cx4_ := Blk.cell (hw_.own _ (List.mem_cons_of_mem _ (List.mem_cons_self ..))) 4 _ rfl
        have cxl_ := Blk.lt (hw_.own _ (List.mem_cons_of_mem _ (List.mem_cons_self ..)))
        have cr0_ := Blk.cell (hw_.own _ (List.mem_cons_of_mem _ (List.mem_cons_of_mem _ (List.mem_cons_self ..)))) 0 _ rfl
        have cr1_ := Blk.cell (hw_.own _ (List.mem_cons_of_mem _ (List.mem_cons_of_mem _ (List.mem_cons_self ..)))) 1 _ rfl
        have cr2_ := Blk.cell (hw_.own _ (List.mem_cons_of_mem _ (List.mem_cons_of_mem _ (List.mem_cons_self ..)))) 2 _ rfl
        have cr3_ := Blk.cell (hw_.own _ (List.mem_cons_of_mem _ (List.mem_cons_of_mem _ (List.mem_cons_self ..)))) 3 _ rfl
        have cr4_ := Blk.cell (hw_.own _ (List.mem_cons_of_mem _ (List.mem_cons_of_mem _ (List.mem_cons_self ..)))) 4 _ rfl
        have crl_ := Blk.lt (hw_.own _ (List.mem_cons_of_mem _ (List.mem_cons_of_mem _ (List.mem_cons_self ..))))
        first | (go_simp; done) | (go_simp; with_reducible rfl) | (go_simp; rw [if_neg (by first | omega | (simp; omega))]))
  try simp only [Act.put, List.setIfInBounds_toArray, List.set_cons_zero, List.set_cons_succ]
  try simp only [e1, e2, e3, e4, e5, e6]
  first
   | (refine q_skip ?_ ?_
      · rfl)
   | (refine q_run ?_ ?_ ?_ ?_
      · kernel_rfl
      rotate_left
      · intro w_ hw_
        have cy0_ := Blk.cell (hw_.own _ (List.mem_cons_self ..)) 0 _ rfl
        have cy1_ := Blk.cell (hw_.own _ (List.mem_cons_self ..)) 1 _ rfl
        have cy2_ := Blk.cell (hw_.own _ (List.mem_cons_self ..)) 2 _ rfl
        have cy3_ := Blk.cell (hw_.own _ (List.mem_cons_self ..)) 3 _ rfl
        have cy4_ := Blk.cell (hw_.own _ (List.mem_cons_self ..)) 4 _ rfl
        have cyl_ := Blk.lt (hw_.own _ (List.mem_cons_self ..))
        have cx0_ := Blk.cell (hw_.own _ (List.mem_cons_of_mem _ (List.mem_cons_self ..))) 0 _ rfl
        have cx1_ := Blk.cell (hw_.own _ (List.mem_cons_of_mem _ (List.mem_cons_self ..))) 1 _ rfl
        have cx2_ := Blk.cell (hw_.own _ (List.mem_cons_of_mem _ (List.mem_cons_self ..))) 2 _ rfl
        have cx3_ := Blk.cell (hw_.own _ (List.mem_cons_of_mem _ (List.mem_cons_self ..))) 3 _ rfl
        have cx4_ := Blk.cell (hw_.own _ (List.mem_cons_of_mem _ (List.mem_cons_self ..))) 4 _ rfl
        have cxl_ := Blk.lt (hw_.own _ (List.mem_cons_of_mem _ (List.mem_cons_self ..)))
        have cr0_ := Blk.cell (hw_.own _ (List.mem_cons_of_mem _ (List.mem_cons_of_mem _ (List.mem_cons_self ..)))) 0 _ rfl
        have cr1_ := Blk.cell (hw_.own _ (List.mem_cons_of_mem _ (List.mem_cons_of_mem _ (List.mem_cons_self ..)))) 1 _ rfl
        have cr2_ := Blk.cell (hw_.own _ (List.mem_cons_of_mem _ (List.mem_cons_of_mem _ (List.mem_cons_self ..)))) 2 _ rfl
        have cr3_ := Blk.cell (hw_.own _ (List.mem_cons_of_mem _ (List.mem_cons_of_mem _ (List.mem_cons_self ..)))) 3 _ rfl
        have cr4_ := Blk.cell (hw_.own _ (List.mem_cons_of_mem _ (List.mem_cons_of_mem _ (List.mem_cons_self ..)))) 4 _ rfl
        have crl_ := Blk.lt (hw_.own _ (List.mem_cons_of_mem _ (List.mem_cons_of_mem _ (List.mem_cons_self ..))))
        first | (go_simp; done) | (go_simp; with_reducible rfl) | (go_simp; rw [if_neg (by first | omega | (simp; omega))]))
  try simp only [Act.put, List.setIfInBounds_toArray, List.set_cons_zero, List.set_cons_succ]
  try simp only [e1, e2, e3, e4, e5, e6]
  first
   | (refine q_skip ?_ ?_
      · rfl)
   | (refine q_call ?_ (.int .i64 (Rp.cls code)) ?_ ?_ ?_ ?_ ?_
      · kernel_rfl
      rotate_left 2
      · intro w_ hw_
        go_simp
        refine ⟨?_, ?_⟩ <;> with_reducible rfl
      · intro w_ hw_
        have cy0_ := Blk.cell (hw_.own _ (List.mem_cons_self ..)) 0 _ rfl
        have cy1_ := Blk.cell (hw_.own _ (List.mem_cons_self ..)) 1 _ rfl
        have cy2_ := Blk.cell (hw_.own _ (List.mem_cons_self ..)) 2 _ rfl
        have cy3_ := Blk.cell (hw_.own _ (List.mem_cons_self ..)) 3 _ rfl
        have cy4_ := Blk.cell (hw_.own _ (List.mem_cons_self ..)) 4 _ rfl
        have cyl_ := Blk.lt (hw_.own _ (List.mem_cons_self ..))
        have cx0_ := Blk.cell (hw_.own _ (List.mem_cons_of_mem _ (List.mem_cons_self ..))) 0 _ rfl
        have cx1_ := Blk.cell (hw_.own _ (List.mem_cons_of_mem _ (List.mem_cons_self ..))) 1 _ rfl
        have cx2_ := Blk.cell (hw_.own _ (List.mem_cons_of_mem _ (List.mem_cons_self ..))) 2 _ rfl
        have cx3_ := Blk.cell (hw_.own _ (List.mem_cons_of_mem _ (List.mem_cons_self ..))) 3 _ rfl
        have cx4_ := Blk.cell (hw_.own _ (List.mem_cons_of_mem _ (List.mem_cons_self ..))) 4 _ rfl
        have cxl_ := Blk.lt (hw_.own _ (List.mem_cons_of_mem _ (List.mem_cons_self ..)))
        have cr0_ := Blk.cell (hw_.own _ (List.mem_cons_of_mem _ (List.mem_cons_of_mem _ (List.mem_cons_self ..)))) 0 _ rfl
        have cr1_ := Blk.cell (hw_.own _ (List.mem_cons_of_mem _ (List.mem_cons_of_mem _ (List.mem_cons_self ..)))) 1 _ rfl
        have cr2_ := Blk.cell (hw_.own _ (List.mem_cons_of_mem _ (List.mem_cons_of_mem _ (List.mem_cons_self ..)))) 2 _ rfl
        have cr3_ := Blk.cell (hw_.own _ (List.mem_cons_of_mem _ (List.mem_cons_of_mem _ (List.mem_cons_self ..)))) 3 _ rfl
        have cr4_ := Blk.cell (hw_.own _ (List.mem_cons_of_mem _ (List.mem_cons_of_mem _ (List.mem_cons_self ..)))) 4 _ rfl
        have crl_ := Blk.lt (hw_.own _ (List.mem_cons_of_mem _ (List.mem_cons_of_mem _ (List.mem_cons_self ..))))
        exact (rclass_any _ _).mono fun _ _ ⟨h1_, h2_⟩ => ⟨h1_, h2_ ▸ hw_⟩)
  try simp only [Act.put, List.setIfInBounds_toArray, List.set_cons_zero, List.set_cons_succ]
  try simp only [e1, e2, e3, e4, e5, e6]
  first
   | (refine q_skip ?_ ?_
      · rfl)
   | (refine q_run ?_ ?_ ?_ ?_
      · kernel_rfl
      rotate_left
      · intro w_ hw_
        have cy0_ := Blk.cell (hw_.own _ (List.mem_cons_self ..)) 0 _ rfl
        have cy1_ := Blk.cell (hw_.own _ (List.mem_cons_self ..)) 1 _ rfl
        have cy2_ := Blk.cell (hw_.own _ (List.mem_cons_self ..)) 2 _ rfl
        have cy3_ := Blk.cell (hw_.own _ (List.mem_cons_self ..)) 3 _ rfl
        have cy4_ := Blk.cell (hw_.own _ (List.mem_cons_self ..)) 4 _ rfl
        have cyl_ := Blk.lt (hw_.own _ (List.mem_cons_self ..))
        have cx0_ := Blk.cell (hw_.own _ (List.mem_cons_of_mem _ (List.mem_cons_self ..))) 0 _ rfl
        have cx1_ := Blk.cell (hw_.own _ (List.mem_cons_of_mem _ (List.mem_cons_self ..))) 1 _ rfl
        have cx2_ := Blk.cell (hw_.own _ (List.mem_cons_of_mem _ (List.mem_cons_self ..))) 2 _ rfl
        have cx3_ := Blk.cell (hw_.own _ (List.mem_cons_of_mem _ (List.mem_cons_self ..))) 3 _ rfl
        have cx4_ := Blk.cell (hw_.own _ (List.mem_cons_of_mem _ (List.mem_cons_self ..))) 4 _ rfl
        have cxl_ := Blk.lt (hw_.own _ (List.mem_cons_of_mem _ (List.mem_cons_self ..)))
        have cr0_ := Blk.cell (hw_.own _ (List.mem_cons_of_mem _ (List.mem_cons_of_mem _ (List.mem_cons_self ..)))) 0 _ rfl
        have cr1_ := Blk.cell (hw_.own _ (List.mem_cons_of_mem _ (List.mem_cons_of_mem _ (List.mem_cons_self ..)))) 1 _ rfl
        have cr2_ := Blk.cell (hw_.own _ (List.mem_cons_of_mem _ (List.mem_cons_of_mem _ (List.mem_cons_self ..)))) 2 _ rfl
        have cr3_ := Blk.cell (hw_.own _ (List.mem_cons_of_mem _ (List.mem_cons_of_mem _ (List.mem_cons_self ..)))) 3 _ rfl
        have cr4_ := Blk.cell (hw_.own _ (List.mem_cons_of_mem _ (List.mem_cons_of_mem _ (List.mem_cons_self ..)))) 4 _ rfl
        have crl_ := Blk.lt (hw_.own _ (List.mem_cons_of_mem _ (List.mem_cons_of_mem _ (List.mem_cons_self ..))))
        first | (go_simp; done) | (go_simp; with_reducible rfl) | (go_simp; rw [if_neg (by first | omega | (simp; omega))]))
  try simp only [Act.put, List.setIfInBounds_toArray, List.set_cons_zero, List.set_cons_succ]
  try simp only [e1, e2, e3, e4, e5, e6]
  refine q_run ?_ ?_ ?_ ?_
  · kernel_rfl
  rotate_left
  · intro w_ hw_
    have cy0_ := Blk.cell (hw_.own _ (List.mem_cons_self ..)) 0 _ rfl
    have cy1_ := Blk.cell (hw_.own _ (List.mem_cons_self ..)) 1 _ rfl
    have cy2_ := Blk.cell (hw_.own _ (List.mem_cons_self ..)) 2 _ rfl
    have cy3_ := Blk.cell (hw_.own _ (List.mem_cons_self ..)) 3 _ rfl
    have cy4_ := Blk.cell (hw_.own _ (List.mem_cons_self ..)) 4 _ rfl
    have cyl_ := Blk.lt (hw_.own _ (List.mem_cons_self ..))
    have cx0_ := Blk.cell (hw_.own _ (List.mem_cons_of_mem _ (List.mem_cons_self ..))) 0 _ rfl
    have cx1_ := Blk.cell (hw_.own _ (List.mem_cons_of_mem _ (List.mem_cons_self ..))) 1 _ rfl
    have cx2_ := Blk.cell (hw_.own _ (List.mem_cons_of_mem _ (List.mem_cons_self ..))) 2 _ rfl
    have cx3_ := Blk.cell (hw_.own _ (List.mem_cons_of_mem _ (List.mem_cons_self ..))) 3 _ rfl
    have cx4_ := Blk.cell (hw_.own _ (List.mem_cons_of_mem _ (List.mem_cons_self ..))) 4 _ rfl
    have cxl_ := Blk.lt (hw_.own _ (List.mem_cons_of_mem _ (List.mem_cons_self ..)))
    have cr0_ := Blk.cell (hw_.own _ (List.mem_cons_of_mem _ (List.mem_cons_of_mem _ (List.mem_cons_self ..)))) 0 _ rfl
    have cr1_ := Blk.cell (hw_.own _ (List.mem_cons_of_mem _ (List.mem_cons_of_mem _ (List.mem_cons_self ..)))) 1 _ rfl
    have cr2_ := Blk.cell (hw_.own _ (List.mem_cons_of_mem _ (List.mem_cons_of_mem _ (List.mem_cons_self ..)))) 2 _ rfl
    have cr3_ := Blk.cell (hw_.own _ (List.mem_cons_of_mem _ (List.mem_cons_of_mem _ (List.mem_cons_self ..)))) 3 _ rfl
    have cr4_ := Blk.cell (hw_.own _ (List.mem_cons_of_mem _ (List.mem_cons_of_mem _ (List.mem_cons_self ..)))) 4 _ rfl
    have crl_ := Blk.lt (hw_.own _ (List.mem_cons_of_mem _ (List.mem_cons_of_mem _ (List.mem_cons_self ..))))
    first | (go_simp; done) | (go_simp; with_reducible rfl) | (go_simp; rw [if_neg (by first | omega | (simp; omega))])
  try simp only [Act.put, List.setIfInBounds_toArray, List.set_cons_zero, List.set_cons_succ]
  try simp only [e1, e2, e3, e4, e5, e6]
  refine q_run ?_ ?_ ?_ ?_
  · kernel_rfl
  rotate_left
  · intro w_ hw_
    have cy0_ := Blk.cell (hw_.own _ (List.mem_cons_self ..)) 0 _ rfl
    have cy1_ := Blk.cell (hw_.own _ (List.mem_cons_self ..)) 1 _ rfl
    have cy2_ := Blk.cell (hw_.own _ (List.mem_cons_self ..)) 2 _ rfl
    have cy3_ := Blk.cell (hw_.own _ (List.mem_cons_self ..)) 3 _ rfl
    have cy4_ := Blk.cell (hw_.own _ (List.mem_cons_self ..)) 4 _ rfl
    have cyl_ := Blk.lt (hw_.own _ (List.mem_cons_self ..))
    have cx0_ := Blk.cell (hw_.own _ (List.mem_cons_of_mem _ (List.mem_cons_self ..))) 0 _ rfl
    have cx1_ := Blk.cell (hw_.own _ (List.mem_cons_of_mem _ (List.mem_cons_self ..))) 1 _ rfl
    have cx2_ := Blk.cell (hw_.own _ (List.mem_cons_of_mem _ (List.mem_cons_self ..))) 2 _ rfl
    have cx3_ := Blk.cell (hw_.own _ (List.mem_cons_of_mem _ (List.mem_cons_self ..))) 3 _ rfl
    have cx4_ := Blk.cell (hw_.own _ (List.mem_cons_of_mem _ (List.mem_cons_self ..))) 4 _ rfl
    have cxl_ := Blk.lt (hw_.own _ (List.mem_cons_of_mem _ (List.mem_cons_self ..)))
    have cr0_ := Blk.cell (hw_.own _ (List.mem_cons_of_mem _ (List.mem_cons_of_mem _ (List.mem_cons_self ..)))) 0 _ rfl
    have cr1_ := Blk.cell (hw_.own _ (List.mem_cons_of_mem _ (List.mem_cons_of_mem _ (List.mem_cons_self ..)))) 1 _ rfl
    have cr2_ := Blk.cell (hw_.own _ (List.mem_cons_of_mem _ (List.mem_cons_of_mem _ (List.mem_cons_self ..)))) 2 _ rfl
    have cr3_ := Blk.cell (hw_.own _ (List.mem_cons_of_mem _ (List.mem_cons_of_mem _ (List.mem_cons_self ..)))) 3 _ rfl
    have cr4_ := Blk.cell (hw_.own _ (List.mem_cons_of_mem _ (List.mem_cons_of_mem _ (List.mem_cons_self ..)))) 4 _ rfl
    have crl_ := Blk.lt (hw_.own _ (List.mem_cons_of_mem _ (List.mem_cons_of_mem _ (List.mem_cons_self ..))))
    first | (go_simp; done) | (go_simp; with_reducible rfl) | (go_simp; rw [if_neg (by first | omega | (simp; omega))])
  try simp only [Act.put, List.setIfInBounds_toArray, List.set_cons_zero, List.set_cons_succ]
  try simp only [e1, e2, e3, e4, e5, e6]
  refine q_nil ?_
  intro W_ hC_
  replace K := Aside.mk hC_
  go_wp2
  go_ret
  exact ⟨rfl, K.out.low⟩
theorem tells_any (w : World) (hE : Env w) (B : Option Addr) (cq : Nat) (u : List ByteArray) (hU : Strs w B u) (hl2 : u.length ≤ 9223372036854775807) (hs2 : ∀ s ∈ u, s.size ≤ 9223372036854775807)
    (code a b c : Int) (A : Option Addr) (cp : Nat) (t : List ByteArray) (hS : Strs w A t) (hl : t.length ≤ 9223372036854775807) (hs : ∀ s ∈ t, s.size ≤ 9223372036854775807)
    (wd : (Lit.int .i64 code).wf = true) (wa : (Lit.int .i64 a).wf = true) (wb : (Lit.int .i64 b).wf = true) (wc : (Lit.int .i64 c).wf = true) :
    Calls Tryd.prog 3 #[.slice B u.length cq, .agg #[.int .i64 code, .int .i64 a, .int .i64 b, .int .i64 c, .slice A t.length cp]] w fun e w' => e = .returned (.bool true) ∧ Below w.heap.size w w' := by
  obtain ⟨d0, d1⟩ := i64_wf wd
  obtain ⟨a0, a1⟩ := i64_wf wa
  obtain ⟨b0, b1⟩ := i64_wf wb
  obtain ⟨c0, c1⟩ := i64_wf wc
  cases hg : Rp.few u with
  | false => exact tells_few1 code a b c A _ cp t rfl B _ cq u rfl w hE hS hU hl hs hl2 hs2 a0 a1 b0 b1 c0 c1 d0 d1 hg
  | true =>
    cases hf : Rp.few t with
    | false => exact tells_few2 code a b c A _ cp t rfl B _ cq u rfl w hE hS hU hl hs hl2 hs2 a0 a1 b0 b1 c0 c1 d0 d1 hg hf
    | true =>
      obtain ⟨u60, uz⟩ := Rp.few_len hg
      obtain ⟨t60, tz⟩ := Rp.few_len hf
      have uz6 : ∀ s ∈ u, s.size ≤ 1000000 := fun s h => Nat.le_trans (uz s h) (by decide)
      have tz6 : ∀ s ∈ t, s.size ≤ 1000000 := fun s h => Nat.le_trans (tz s h) (by decide)
      have tz9 : ∀ s ∈ t, s.size ≤ 140737488351232 := fun s h => Nat.le_trans (tz s h) (by decide)
      obtain ⟨x0, x1, x2, x3, kx, xs, er, hxl, hkx, hform⟩ := ps_form u
      have hps := fun (W : World) (A1 : Option Addr) (cp1 : Nat) (hW : Env W) (h1 : Strs W A1 u) => (parse_any u A1 cp1 W hW h1 uz6 (by omega)).mono fun e w' h => hform W w' e h
      have hrps := fun (W : World) (h1 : Strs W B u) => (rparse_any u B cq W h1 uz6 (by omega)).mono fun e w' h => hform W w' e h
      by_cases hr : Rp.right code a b c t = 0
      · have hO := Rp.ok_of_right hr
        exact tells_in code a b c A _ cp t rfl B _ cq u rfl w hE hS hU hl hs hl2 hs2 a0 a1 b0 b1 c0 c1 d0 d1 hg hf x0 x1 x2 x3 kx xs er hxl hkx hps hrps t.length (Rp.prn code a b c t) 0 (Rp.prn_length code a b c t) (by omega)
          (fun W hW h1 => print_ok_m code a b c A _ cp t rfl W hW h1 tz6 (by omega) hO.len0 d0 d1 a0 a1 b0 b1 c0 c1 hr)
          (fun W h1 => rprint_ok code a b c A _ cp t rfl W h1 tz6 (by omega) hr)
      · exact tells_in code a b c A _ cp t rfl B _ cq u rfl w hE hS hU hl hs hl2 hs2 a0 a1 b0 b1 c0 c1 d0 d1 hg hf x0 x1 x2 x3 kx xs er hxl hkx hps hrps 0 [] (Rp.right code a b c t) rfl (by omega)
          (fun W hW h1 => (print_bad_m code a b c A _ cp t rfl W hW h1 tz9 (by omega) a0 a1 b0 b1 c0 c1 _ rfl hr).mono fun e w' ⟨h, hb⟩ => ⟨none, 0, h, Strs.nil _ _, hb⟩)
          (fun W h1 => (rprint_bad code a b c A _ cp t rfl W h1 tz6 (by omega) _ rfl hr).mono fun e w' ⟨h, hb⟩ => ⟨none, 0, h, Strs.nil _ _, hb⟩)
end Go.Proofs.YtfeedokfcebjjaaDoor
