/-
  Walks of the package reply: ReplyWrong.
-/
import Derived.Test.YtfeedokfcebjjaaDoorRpLawC
import Derived.IntWalk
import Derived.Laws.OwnMore
set_option linter.unusedVariables false
set_option linter.unusedSimpArgs false
namespace Go.Proofs.YtfeedokfcebjjaaDoor
open Go.RowKit
set_option maxRecDepth 100000
attribute [local go_sem] equal3
theorem Row.put {W0 w : World} {g n c : Nat} {xs : List ByteArray} (h : Row w W0.heap.size (.slice (some ⟨g, 0, none⟩) n c) xs) (hn : xs.length = n) (hlow : Below W0.heap.size W0 w) (hg : W0.heap.size ≤ g) (k : Nat) (u : ByteArray) :
    Row (w.setCell ⟨g, k, none⟩ (.string u)) W0.heap.size (.slice (some ⟨g, 0, none⟩) n c) (xs.set k u) ∧ Below W0.heap.size W0 (w.setCell ⟨g, k, none⟩ (.string u)) := by
  unfold Row at *
  subst hn
  obtain ⟨h1, h2⟩ := World.ownsRow.stored h k (.string u)
  refine ⟨?_, hlow.grown h2 hlow.size (fun k e => by cases e; exact hg)⟩
  rw [List.length_set, List.map_set]
  exact h1
theorem Row.spot {w : World} {base n c : Nat} {A : Option Addr} {xs : List ByteArray} (h : Row w base (.slice A n c) xs) (hn : xs.length = n) (hp : 1 ≤ n) : ∃ g, A = some ⟨g, 0, none⟩ ∧ base ≤ g ∧ g < w.heap.size ∧ ∀ k, (hk : k < xs.length) → w.cell? ⟨g, k, none⟩ = some (.string xs[k]) ∧ w.frozen? ⟨g, k, none⟩ = false := by
  have hst := h.strs
  unfold Row at h
  obtain ⟨_, h1 | ⟨g, cap, cur, hv, hb, hc, _⟩⟩ := h
  · injection h1.1 with _ e; omega
  · injection hv with hA _ _
    subst hA
    obtain ⟨b, o, e, hl, hcell⟩ := hst (by rintro rfl; simp at hn; omega)
    injection e with e
    injection e with e1 e2 _
    subst e1 e2
    refine ⟨g, rfl, hb, hl, fun k hk => ⟨by have := hcell k hk; rwa [Nat.zero_add] at this, ?_⟩⟩
    exact Blk.free (show Blk w g cur 9 from hc) k
set_option maxHeartbeats 8000000 in
theorem wrong_few (code a b c : Int) (A : Option Addr) (m cp : Nat) (t : List ByteArray) (hm : t.length = m) (p : Int) (p1 : p ≤ 9223372036854775807) (w : World) (hE : Env w) (hS : Strs w A t) (hl : m ≤ 9223372036854775807) (hs : ∀ s ∈ t, s.size ≤ 9223372036854775807) (a0 : -9223372036854775808 ≤ a) (a1 : a ≤ 9223372036854775807) (b0 : -9223372036854775808 ≤ b) (b1 : b ≤ 9223372036854775807) (c0 : -9223372036854775808 ≤ c) (c1 : c ≤ 9223372036854775807) (d0 : -9223372036854775808 ≤ code) (d1 : code ≤ 9223372036854775807) (hf : Rp.few t = false) :
    Calls Tryd.prog 7 #[.agg #[.int .i64 code, .int .i64 a, .int .i64 b, .int .i64 c, .slice A m cp], .int .i64 p] w fun e w' => e = .returned (.bool true) ∧ Below w.heap.size w w' := by
  have Hs := Aside.mk hs
  have K : Aside (Kp w [(w.heap.size, #[.int .i64 code, .int .i64 a, .int .i64 b, .int .i64 c, .slice A m cp], 25)] [(A, t)] (w.alloc (.cells #[.int .i64 code, .int .i64 a, .int .i64 b, .int .i64 c, .slice A m cp] 25))) := ⟨((Kp.start w).str hS).blk #[.int .i64 code, .int .i64 a, .int .i64 b, .int .i64 c, .slice A m cp] 25⟩
  clear hS hs
  go_enter Tryd.func7, Tryd.ntmps7
  go_wp2_with (first | (go_at_call 8; (with_reducible refine (awake_any _ (hE.next K.out.low)).mono ?_); rintro e w1 ⟨rfl, hb⟩; replace K := Aside.mk (K.out.next hb); clear hb; (try clear z0); (try clear z1); (try clear z2); (try clear z3); (try clear z4); (try clear zl); have z0 := Blk.cell (K.out.own _ (List.mem_cons_self ..)) 0 _ rfl; have z1 := Blk.cell (K.out.own _ (List.mem_cons_self ..)) 1 _ rfl; have z2 := Blk.cell (K.out.own _ (List.mem_cons_self ..)) 2 _ rfl; have z3 := Blk.cell (K.out.own _ (List.mem_cons_self ..)) 3 _ rfl; have z4 := Blk.cell (K.out.own _ (List.mem_cons_self ..)) 4 _ rfl; have zl := Blk.lt (K.out.own _ (List.mem_cons_self ..))) | (go_at_call 9; (with_reducible refine (few_m A m cp t hm _ (K.out.textm (by simp)) hl Hs.out false hf).mono ?_); rintro e w' ⟨rfl, hw⟩; have hw' := hw.symm; clear hw; subst hw'))
  go_ret
  exact ⟨rfl, K.out.low⟩
set_option maxHeartbeats 8000000 in
theorem wrong_neg (code a b c : Int) (A : Option Addr) (m cp : Nat) (t : List ByteArray) (hm : t.length = m) (p : Int) (p1 : p ≤ 9223372036854775807) (w : World) (hE : Env w) (hS : Strs w A t) (hl : m ≤ 9223372036854775807) (hs : ∀ s ∈ t, s.size ≤ 9223372036854775807) (a0 : -9223372036854775808 ≤ a) (a1 : a ≤ 9223372036854775807) (b0 : -9223372036854775808 ≤ b) (b1 : b ≤ 9223372036854775807) (c0 : -9223372036854775808 ≤ c) (c1 : c ≤ 9223372036854775807) (d0 : -9223372036854775808 ≤ code) (d1 : code ≤ 9223372036854775807) (hf : Rp.few t = true) (hp : p < 0) :
    Calls Tryd.prog 7 #[.agg #[.int .i64 code, .int .i64 a, .int .i64 b, .int .i64 c, .slice A m cp], .int .i64 p] w fun e w' => e = .returned (.bool true) ∧ Below w.heap.size w w' := by
  have Hs := Aside.mk hs
  have K : Aside (Kp w [(w.heap.size, #[.int .i64 code, .int .i64 a, .int .i64 b, .int .i64 c, .slice A m cp], 25)] [(A, t)] (w.alloc (.cells #[.int .i64 code, .int .i64 a, .int .i64 b, .int .i64 c, .slice A m cp] 25))) := ⟨((Kp.start w).str hS).blk #[.int .i64 code, .int .i64 a, .int .i64 b, .int .i64 c, .slice A m cp] 25⟩
  clear hS hs
  go_enter Tryd.func7, Tryd.ntmps7
  go_wp2_with (first | (go_at_call 8; (with_reducible refine (awake_any _ (hE.next K.out.low)).mono ?_); rintro e w1 ⟨rfl, hb⟩; replace K := Aside.mk (K.out.next hb); clear hb; (try clear z0); (try clear z1); (try clear z2); (try clear z3); (try clear z4); (try clear zl); have z0 := Blk.cell (K.out.own _ (List.mem_cons_self ..)) 0 _ rfl; have z1 := Blk.cell (K.out.own _ (List.mem_cons_self ..)) 1 _ rfl; have z2 := Blk.cell (K.out.own _ (List.mem_cons_self ..)) 2 _ rfl; have z3 := Blk.cell (K.out.own _ (List.mem_cons_self ..)) 3 _ rfl; have z4 := Blk.cell (K.out.own _ (List.mem_cons_self ..)) 4 _ rfl; have zl := Blk.lt (K.out.own _ (List.mem_cons_self ..))) | (go_at_call 9; (with_reducible refine (few_m A m cp t hm _ (K.out.textm (by simp)) hl Hs.out true hf).mono ?_); rintro e w' ⟨rfl, hw⟩; have hw' := hw.symm; clear hw; subst hw'))
  go_ret
  exact ⟨rfl, K.out.low⟩
set_option maxHeartbeats 8000000 in
theorem wrong_bad (code a b c : Int) (A : Option Addr) (m cp : Nat) (t : List ByteArray) (hm : t.length = m) (p : Int) (p1 : p ≤ 9223372036854775807) (w : World) (hE : Env w) (hS : Strs w A t) (hl : m ≤ 9223372036854775807) (hs : ∀ s ∈ t, s.size ≤ 9223372036854775807) (a0 : -9223372036854775808 ≤ a) (a1 : a ≤ 9223372036854775807) (b0 : -9223372036854775808 ≤ b) (b1 : b ≤ 9223372036854775807) (c0 : -9223372036854775808 ≤ c) (c1 : c ≤ 9223372036854775807) (d0 : -9223372036854775808 ≤ code) (d1 : code ≤ 9223372036854775807) (hf : Rp.few t = true) (hp : 0 ≤ p) (r : Int) (hr : Rp.right code a b c t = r) (hr0 : r ≠ 0) (hr1 : (r == 0) = false) (hr2 : (r != 0) = true) :
    Calls Tryd.prog 7 #[.agg #[.int .i64 code, .int .i64 a, .int .i64 b, .int .i64 c, .slice A m cp], .int .i64 p] w fun e w' => e = .returned (.bool true) ∧ Below w.heap.size w w' := by
  have Hs := Aside.mk hs
  have K : Aside (Kp w [(w.heap.size, #[.int .i64 code, .int .i64 a, .int .i64 b, .int .i64 c, .slice A m cp], 25)] [(A, t)] (w.alloc (.cells #[.int .i64 code, .int .i64 a, .int .i64 b, .int .i64 c, .slice A m cp] 25))) := ⟨((Kp.start w).str hS).blk #[.int .i64 code, .int .i64 a, .int .i64 b, .int .i64 c, .slice A m cp] 25⟩
  clear hS hs
  have h60 := (Rp.few_len hf).1
  have Hz := Aside.mk (fun s h => Nat.le_trans ((Rp.few_len hf).2 s h) (by decide : 1000 ≤ 140737488351232))
  have Hy := Aside.mk (fun s h => Nat.le_trans ((Rp.few_len hf).2 s h) (by decide : 1000 ≤ 1000000))
  rw [hm] at h60
  go_enter Tryd.func7, Tryd.ntmps7
  go_wp2_with (first | (go_at_call 8; (with_reducible refine (awake_any _ (hE.next K.out.low)).mono ?_); rintro e w1 ⟨rfl, hb⟩; replace K := Aside.mk (K.out.next hb); clear hb; (try clear z0); (try clear z1); (try clear z2); (try clear z3); (try clear z4); (try clear zl); have z0 := Blk.cell (K.out.own _ (List.mem_cons_self ..)) 0 _ rfl; have z1 := Blk.cell (K.out.own _ (List.mem_cons_self ..)) 1 _ rfl; have z2 := Blk.cell (K.out.own _ (List.mem_cons_self ..)) 2 _ rfl; have z3 := Blk.cell (K.out.own _ (List.mem_cons_self ..)) 3 _ rfl; have z4 := Blk.cell (K.out.own _ (List.mem_cons_self ..)) 4 _ rfl; have zl := Blk.lt (K.out.own _ (List.mem_cons_self ..))) | (go_at_call 9; (with_reducible refine (few_m A m cp t hm _ (K.out.textm (by simp)) hl Hs.out true hf).mono ?_); rintro e w' ⟨rfl, hw⟩; have hw' := hw.symm; clear hw; subst hw') | (go_at_call 12; (with_reducible refine (print_bad_m code a b c _ m _ t hm _ (hE.next K.out.low) (K.out.textm (by simp)) Hz.out (by omega) a0 a1 b0 b1 c0 c1 r hr hr0).mono ?_); rintro e w4 ⟨rfl, hb⟩; replace K := Aside.mk (K.out.next hb); clear hb))
  go_ret
  exact ⟨rfl, K.out.low⟩
set_option maxHeartbeats 8000000 in
theorem wrong_ok (code a b c : Int) (A : Option Addr) (m cp : Nat) (t : List ByteArray) (hm : t.length = m) (p : Int) (p1 : p ≤ 9223372036854775807) (w : World) (hE : Env w) (hS : Strs w A t) (hl : m ≤ 9223372036854775807) (hs : ∀ s ∈ t, s.size ≤ 9223372036854775807) (a0 : -9223372036854775808 ≤ a) (a1 : a ≤ 9223372036854775807) (b0 : -9223372036854775808 ≤ b) (b1 : b ≤ 9223372036854775807) (c0 : -9223372036854775808 ≤ c) (c1 : c ≤ 9223372036854775807) (d0 : -9223372036854775808 ≤ code) (d1 : code ≤ 9223372036854775807) (hf : Rp.few t = true) (k : Nat) (hp : 0 ≤ p) (hk : p % (m : Int) = (k : Int)) (hkm : k < m) (hr : Rp.right code a b c t = 0) (n1 : 1 ≤ m) (n2 : m ≤ 32) (ll : List ByteArray) (hll : Rp.prn code a b c t = ll) (hlen : ll.length = m) (hz2 : ∀ s ∈ ll, s.size ≤ 1000000) (s0 s3 : ByteArray) (h0 : ll[k]'(by omega) = s0) (h04 : 4 ≤ s0.size) (h3 : s0.extract 0 3 ++ (⟨#[120]⟩ : ByteArray) = s3) (hs3 : s3.size ≤ 1000000) (hwr : ∀ s, s = (⟨#[]⟩ : ByteArray) ∨ s = (⟨#[50]⟩ : ByteArray) ∨ s = (⟨#[57, 57, 57, 32, 120]⟩ : ByteArray) ∨ s = s3 → Rp.prs 0 0 (ll.set k s) = (2, 0, 0)) :
    Calls Tryd.prog 7 #[.agg #[.int .i64 code, .int .i64 a, .int .i64 b, .int .i64 c, .slice A m cp], .int .i64 p] w fun e w' => e = .returned (.bool true) ∧ Below w.heap.size w w' := by
  have Hs := Aside.mk hs
  have K : Aside (Kp w [(w.heap.size, #[.int .i64 code, .int .i64 a, .int .i64 b, .int .i64 c, .slice A m cp], 25)] [(A, t)] (w.alloc (.cells #[.int .i64 code, .int .i64 a, .int .i64 b, .int .i64 c, .slice A m cp] 25))) := ⟨((Kp.start w).str hS).blk #[.int .i64 code, .int .i64 a, .int .i64 b, .int .i64 c, .slice A m cp] 25⟩
  clear hS hs
  have h60 := (Rp.few_len hf).1
  have Hz := Aside.mk (fun s h => Nat.le_trans ((Rp.few_len hf).2 s h) (by decide : 1000 ≤ 140737488351232))
  have Hy := Aside.mk (fun s h => Nat.le_trans ((Rp.few_len hf).2 s h) (by decide : 1000 ≤ 1000000))
  rw [hm] at h60
  have Hw := Aside.mk hz2
  clear hz2
  go_enter Tryd.func7, Tryd.ntmps7
  go_wp2_with (first | (go_at_call 8; (with_reducible refine (awake_any _ (hE.next K.out.low)).mono ?_); rintro e w1 ⟨rfl, hb⟩; replace K := Aside.mk (K.out.next hb); clear hb; (try clear z0); (try clear z1); (try clear z2); (try clear z3); (try clear z4); (try clear zl); have z0 := Blk.cell (K.out.own _ (List.mem_cons_self ..)) 0 _ rfl; have z1 := Blk.cell (K.out.own _ (List.mem_cons_self ..)) 1 _ rfl; have z2 := Blk.cell (K.out.own _ (List.mem_cons_self ..)) 2 _ rfl; have z3 := Blk.cell (K.out.own _ (List.mem_cons_self ..)) 3 _ rfl; have z4 := Blk.cell (K.out.own _ (List.mem_cons_self ..)) 4 _ rfl; have zl := Blk.lt (K.out.own _ (List.mem_cons_self ..))) | (go_at_call 9; (with_reducible refine (few_m A m cp t hm _ (K.out.textm (by simp)) hl Hs.out true hf).mono ?_); rintro e w' ⟨rfl, hw⟩; have hw' := hw.symm; clear hw; subst hw') | (go_at_call 12; (with_reducible refine (print_ok_m code a b c _ m _ t hm _ (hE.next K.out.low) (K.out.textm (by simp)) Hy.out (by omega) n1 d0 d1 a0 a1 b0 b1 c0 c1 hr).mono ?_); rintro e w2 ⟨A2, c2, rfl, hs2, hb⟩; rw [hll] at hs2; obtain ⟨bb, oo, rfl, hbl, hcell⟩ := hs2.at k (by omega); rw [h0] at hcell; replace K := Aside.mk ((K.out.next hb).str hs2); clear hb hs2))
  replace K := Aside.mk (K.out.blk #[.string ⟨#[]⟩, .string ⟨#[50]⟩, .string ⟨#[57, 57, 57, 32, 120]⟩, .string s3] 49)
  rw [hk]
  generalize w2.alloc (.cells #[.string ⟨#[]⟩, .string ⟨#[50]⟩, .string ⟨#[57, 57, 57, 32, 120]⟩, .string s3] 49) = W0 at *
  go_loopw [8] (fun i wr => ∃ q : Nat, q ≤ 4 ∧ i = .int .i64 q ∧ Kp w [(w2.heap.size, #[.string ⟨#[]⟩, .string ⟨#[50]⟩, .string ⟨#[57, 57, 57, 32, 120]⟩, .string s3], 49), (w.heap.size, #[.int .i64 code, .int .i64 a, .int .i64 b, .int .i64 c, .slice A m cp], 25)] [(some ⟨bb, oo, none⟩, ll), (A, t)] wr) (fun i _ => 4 - (intOf i).toNat)
  case atStart => exact ⟨0, by omega, rfl, K.out⟩
  case round =>
    clear K
    obtain ⟨q, hq, rfl, hK⟩ := hrel
    have K := Aside.mk hK
    clear hK
    have z0 := Blk.cell (K.out.own _ (List.mem_cons_self ..)) 0 _ rfl
    have z1 := Blk.cell (K.out.own _ (List.mem_cons_self ..)) 1 _ rfl
    have z2 := Blk.cell (K.out.own _ (List.mem_cons_self ..)) 2 _ rfl
    have z3 := Blk.cell (K.out.own _ (List.mem_cons_self ..)) 3 _ rfl
    have zl := Blk.lt (K.out.own _ (List.mem_cons_self ..))
    rcases (show q = 0 ∨ q = 1 ∨ q = 2 ∨ q = 3 ∨ q = 4 by omega) with rfl | rfl | rfl | rfl | rfl
    · have SQ := Lib.hid (hwr (⟨#[]⟩ : ByteArray) (.inl rfl))
      have SZ : ByteArray.size (⟨#[]⟩ : ByteArray) ≤ 1000000 := by decide
      go_wp2_with (first | (at_builtin; refine app_copy rfl _ _ rfl (W0 := wr) ((Below.refl _ _).alloc (Nat.le_refl _) _) _ 0 0 [] rfl (by rfl) (Row.lit1 (Below.refl _ _)) (some ⟨bb, oo, none⟩) m c2 (by rfl) ll hlen ((K.out.alloc _).textm (by simp)) (by omega) m (by omega) ll (by simp) ?_; intro A3 c3 w3 hr3 hs3 hb3; obtain ⟨g, rfl, hg0, hg1, hgc⟩ := hr3.spot hlen (by omega); obtain ⟨hg2, hg3⟩ := hgc k (by omega); have K0 := K; replace K := Aside.mk ((K.out.next hb3)); clear hgc hs3; generalize ll[k] = old at hg2; (try clear z0); (try clear z1); (try clear z2); (try clear z3); (try clear zl); have z0 := Blk.cell (K.out.own _ (List.mem_cons_self ..)) 0 _ rfl; have z1 := Blk.cell (K.out.own _ (List.mem_cons_self ..)) 1 _ rfl; have z2 := Blk.cell (K.out.own _ (List.mem_cons_self ..)) 2 _ rfl; have z3 := Blk.cell (K.out.own _ (List.mem_cons_self ..)) 3 _ rfl; have zl := Blk.lt (K.out.own _ (List.mem_cons_self ..)); obtain ⟨hr4, hb4⟩ := Row.put hr3 hlen hb3 hg0 k (⟨#[]⟩ : ByteArray); replace K0 := Aside.mk (K0.out.next hb4); clear hb4) | (go_at_call 10; (with_reducible refine (parse_bad_m (ll.set k (⟨#[]⟩ : ByteArray)) _ m _ (by rw [List.length_set, hlen]) 2 SQ.out (by decide) _ (hE.next K0.out.low) hr4.strs (fun q h => by rcases List.mem_or_eq_of_mem_set h with h | h; exact Hw.out q h; rw [h]; exact SZ) (by omega)).mono ?_); rintro e w5 ⟨rfl, hb⟩; replace K := Aside.mk ((K0.out.next hb).alloc (.cells #[.int .i64 0, .int .i64 0, .int .i64 0, .int .i64 0, .slice none 0 0] 25)); clear hb))
      go_roundw
      case rel => exact ⟨1, by omega, by go_num, K.out⟩
      case measure => simp [intOf]
    · have SQ := Lib.hid (hwr (⟨#[50]⟩ : ByteArray) (.inr (.inl rfl)))
      have SZ : ByteArray.size (⟨#[50]⟩ : ByteArray) ≤ 1000000 := by decide
      go_wp2_with (first | (at_builtin; refine app_copy rfl _ _ rfl (W0 := wr) ((Below.refl _ _).alloc (Nat.le_refl _) _) _ 0 0 [] rfl (by rfl) (Row.lit1 (Below.refl _ _)) (some ⟨bb, oo, none⟩) m c2 (by rfl) ll hlen ((K.out.alloc _).textm (by simp)) (by omega) m (by omega) ll (by simp) ?_; intro A3 c3 w3 hr3 hs3 hb3; obtain ⟨g, rfl, hg0, hg1, hgc⟩ := hr3.spot hlen (by omega); obtain ⟨hg2, hg3⟩ := hgc k (by omega); have K0 := K; replace K := Aside.mk ((K.out.next hb3)); clear hgc hs3; generalize ll[k] = old at hg2; (try clear z0); (try clear z1); (try clear z2); (try clear z3); (try clear zl); have z0 := Blk.cell (K.out.own _ (List.mem_cons_self ..)) 0 _ rfl; have z1 := Blk.cell (K.out.own _ (List.mem_cons_self ..)) 1 _ rfl; have z2 := Blk.cell (K.out.own _ (List.mem_cons_self ..)) 2 _ rfl; have z3 := Blk.cell (K.out.own _ (List.mem_cons_self ..)) 3 _ rfl; have zl := Blk.lt (K.out.own _ (List.mem_cons_self ..)); obtain ⟨hr4, hb4⟩ := Row.put hr3 hlen hb3 hg0 k (⟨#[50]⟩ : ByteArray); replace K0 := Aside.mk (K0.out.next hb4); clear hb4) | (go_at_call 10; (with_reducible refine (parse_bad_m (ll.set k (⟨#[50]⟩ : ByteArray)) _ m _ (by rw [List.length_set, hlen]) 2 SQ.out (by decide) _ (hE.next K0.out.low) hr4.strs (fun q h => by rcases List.mem_or_eq_of_mem_set h with h | h; exact Hw.out q h; rw [h]; exact SZ) (by omega)).mono ?_); rintro e w5 ⟨rfl, hb⟩; replace K := Aside.mk ((K0.out.next hb).alloc (.cells #[.int .i64 0, .int .i64 0, .int .i64 0, .int .i64 0, .slice none 0 0] 25)); clear hb))
      go_roundw
      case rel => exact ⟨2, by omega, by go_num, K.out⟩
      case measure => simp [intOf]
    · have SQ := Lib.hid (hwr (⟨#[57, 57, 57, 32, 120]⟩ : ByteArray) (.inr (.inr (.inl rfl))))
      have SZ : ByteArray.size (⟨#[57, 57, 57, 32, 120]⟩ : ByteArray) ≤ 1000000 := by decide
      go_wp2_with (first | (at_builtin; refine app_copy rfl _ _ rfl (W0 := wr) ((Below.refl _ _).alloc (Nat.le_refl _) _) _ 0 0 [] rfl (by rfl) (Row.lit1 (Below.refl _ _)) (some ⟨bb, oo, none⟩) m c2 (by rfl) ll hlen ((K.out.alloc _).textm (by simp)) (by omega) m (by omega) ll (by simp) ?_; intro A3 c3 w3 hr3 hs3 hb3; obtain ⟨g, rfl, hg0, hg1, hgc⟩ := hr3.spot hlen (by omega); obtain ⟨hg2, hg3⟩ := hgc k (by omega); have K0 := K; replace K := Aside.mk ((K.out.next hb3)); clear hgc hs3; generalize ll[k] = old at hg2; (try clear z0); (try clear z1); (try clear z2); (try clear z3); (try clear zl); have z0 := Blk.cell (K.out.own _ (List.mem_cons_self ..)) 0 _ rfl; have z1 := Blk.cell (K.out.own _ (List.mem_cons_self ..)) 1 _ rfl; have z2 := Blk.cell (K.out.own _ (List.mem_cons_self ..)) 2 _ rfl; have z3 := Blk.cell (K.out.own _ (List.mem_cons_self ..)) 3 _ rfl; have zl := Blk.lt (K.out.own _ (List.mem_cons_self ..)); obtain ⟨hr4, hb4⟩ := Row.put hr3 hlen hb3 hg0 k (⟨#[57, 57, 57, 32, 120]⟩ : ByteArray); replace K0 := Aside.mk (K0.out.next hb4); clear hb4) | (go_at_call 10; (with_reducible refine (parse_bad_m (ll.set k (⟨#[57, 57, 57, 32, 120]⟩ : ByteArray)) _ m _ (by rw [List.length_set, hlen]) 2 SQ.out (by decide) _ (hE.next K0.out.low) hr4.strs (fun q h => by rcases List.mem_or_eq_of_mem_set h with h | h; exact Hw.out q h; rw [h]; exact SZ) (by omega)).mono ?_); rintro e w5 ⟨rfl, hb⟩; replace K := Aside.mk ((K0.out.next hb).alloc (.cells #[.int .i64 0, .int .i64 0, .int .i64 0, .int .i64 0, .slice none 0 0] 25)); clear hb))
      go_roundw
      case rel => exact ⟨3, by omega, by go_num, K.out⟩
      case measure => simp [intOf]
    · have SQ := Lib.hid (hwr s3 (.inr (.inr (.inr rfl))))
      have SZ : ByteArray.size s3 ≤ 1000000 := by exact hs3
      go_wp2_with (first | (at_builtin; refine app_copy rfl _ _ rfl (W0 := wr) ((Below.refl _ _).alloc (Nat.le_refl _) _) _ 0 0 [] rfl (by rfl) (Row.lit1 (Below.refl _ _)) (some ⟨bb, oo, none⟩) m c2 (by rfl) ll hlen ((K.out.alloc _).textm (by simp)) (by omega) m (by omega) ll (by simp) ?_; intro A3 c3 w3 hr3 hs3 hb3; obtain ⟨g, rfl, hg0, hg1, hgc⟩ := hr3.spot hlen (by omega); obtain ⟨hg2, hg3⟩ := hgc k (by omega); have K0 := K; replace K := Aside.mk ((K.out.next hb3)); clear hgc hs3; generalize ll[k] = old at hg2; (try clear z0); (try clear z1); (try clear z2); (try clear z3); (try clear zl); have z0 := Blk.cell (K.out.own _ (List.mem_cons_self ..)) 0 _ rfl; have z1 := Blk.cell (K.out.own _ (List.mem_cons_self ..)) 1 _ rfl; have z2 := Blk.cell (K.out.own _ (List.mem_cons_self ..)) 2 _ rfl; have z3 := Blk.cell (K.out.own _ (List.mem_cons_self ..)) 3 _ rfl; have zl := Blk.lt (K.out.own _ (List.mem_cons_self ..)); obtain ⟨hr4, hb4⟩ := Row.put hr3 hlen hb3 hg0 k s3; replace K0 := Aside.mk (K0.out.next hb4); clear hb4) | (go_at_call 10; (with_reducible refine (parse_bad_m (ll.set k s3) _ m _ (by rw [List.length_set, hlen]) 2 SQ.out (by decide) _ (hE.next K0.out.low) hr4.strs (fun q h => by rcases List.mem_or_eq_of_mem_set h with h | h; exact Hw.out q h; rw [h]; exact SZ) (by omega)).mono ?_); rintro e w5 ⟨rfl, hb⟩; replace K := Aside.mk ((K0.out.next hb).alloc (.cells #[.int .i64 0, .int .i64 0, .int .i64 0, .int .i64 0, .slice none 0 0] 25)); clear hb))
      go_roundw
      case rel => exact ⟨4, by omega, by go_num, K.out⟩
      case measure => simp [intOf]
    · go_wp2
      go_ret
      exact ⟨rfl, K.out.low⟩
theorem wrong_any (w : World) (hE : Env w) (code a b c : Int) (A : Option Addr) (cp : Nat) (t : List ByteArray) (hS : Strs w A t) (hl : t.length ≤ 9223372036854775807) (hs : ∀ s ∈ t, s.size ≤ 9223372036854775807)
    (wd : (Lit.int .i64 code).wf = true) (wa : (Lit.int .i64 a).wf = true) (wb : (Lit.int .i64 b).wf = true) (wc : (Lit.int .i64 c).wf = true) (p : Int) (wp : (Lit.int .i64 p).wf = true) :
    Calls Tryd.prog 7 #[.agg #[.int .i64 code, .int .i64 a, .int .i64 b, .int .i64 c, .slice A t.length cp], .int .i64 p] w fun e w' => e = .returned (.bool true) ∧ Below w.heap.size w w' := by
  obtain ⟨d0, d1⟩ := i64_wf wd
  obtain ⟨a0, a1⟩ := i64_wf wa
  obtain ⟨b0, b1⟩ := i64_wf wb
  obtain ⟨c0, c1⟩ := i64_wf wc
  obtain ⟨p0, p1⟩ := i64_wf wp
  cases hf : Rp.few t with
  | false => exact wrong_few code a b c A _ cp t rfl p p1 w hE hS hl hs a0 a1 b0 b1 c0 c1 d0 d1 hf
  | true =>
    by_cases hp : 0 ≤ p
    · by_cases hr : Rp.right code a b c t = 0
      · obtain ⟨⟨n1, n2⟩, ll, hll, hlen, hz, hwr⟩ := Rp.wrong_plain hr
        have hm0 := Int.emod_nonneg p (b := (t.length : Int)) (by omega)
        have hm1 := Int.emod_lt_of_pos p (b := (t.length : Int)) (by omega)
        obtain ⟨k, hk⟩ : ∃ k : Nat, p % (t.length : Int) = (k : Int) := ⟨(p % (t.length : Int)).toNat, by omega⟩
        have hkm : k < t.length := by omega
        have hkl : k < ll.length := by omega
        have h4 := hz ll[k] (List.getElem_mem _)
        have hq : (ll[k].extract 0 3 ++ (⟨#[120]⟩ : ByteArray)).data.toList = ll[k].data.toList.take 3 ++ [120] := by simp
        refine wrong_ok code a b c A _ cp t rfl p p1 w hE hS hl hs a0 a1 b0 b1 c0 c1 d0 d1 hf k hp hk hkm hr n1 n2 ll hll hlen (fun s h => (hz s h).2) ll[k] _ rfl h4.1 rfl ?_ fun s hs2 => hwr k hkl s ?_
        · rw [Rp.size_len, hq]
          simp
          omega
        · rcases hs2 with h | h | h | h
          · exact .inl h
          · exact .inr (.inl h)
          · exact .inr (.inr (.inl h))
          · exact .inr (.inr (.inr (by rw [h, hq])))
      · exact wrong_bad code a b c A _ cp t rfl p p1 w hE hS hl hs a0 a1 b0 b1 c0 c1 d0 d1 hf hp _ rfl hr (by simpa using hr) (by simpa using hr)
    · exact wrong_neg code a b c A _ cp t rfl p p1 w hE hS hl hs a0 a1 b0 b1 c0 c1 d0 d1 hf (by omega)
end Go.Proofs.YtfeedokfcebjjaaDoor
