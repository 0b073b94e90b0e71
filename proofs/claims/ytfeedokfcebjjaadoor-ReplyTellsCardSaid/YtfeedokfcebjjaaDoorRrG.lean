/-
  Walks of the package reply: the reference's read.
-/
import Derived.Test.YtfeedokfcebjjaaDoorRrF
import Derived.Test.YtfeedokfcebjjaaDoorRrB2
import Derived.Test.YtfeedokfcebjjaaDoorRpRead
import Derived.Deep.RegionHeld3
import Derived.Outline
set_option linter.unusedVariables false
set_option linter.unusedSimpArgs false
namespace Go.Proofs.YtfeedokfcebjjaaDoor
open Go.RowKit
set_option maxRecDepth 100000
attribute [local go_sem] equal3
theorem num1_no {sep : UInt8} {u : List UInt8} (h : Rr.num u = none) : Rr.num1 sep u = none := by unfold Rr.num1; rw [h]
theorem num1_other {sep : UInt8} {u : List UInt8} {n : Int} {k : Nat} (h : Rr.num u = some (n, k)) (hk : u[k]? ≠ some sep) : Rr.num1 sep u = none := by unfold Rr.num1; rw [h]; simp only; rw [if_neg hk]
theorem num1_go {sep : UInt8} {u : List UInt8} {n : Int} {k : Nat} (h : Rr.num u = some (n, k)) (hk : u[k]? = some sep) : Rr.num1 sep u = some (n, u.drop (k + 1)) := by unfold Rr.num1; rw [h]; simp only; rw [if_pos hk]
theorem numAt_no {s : List UInt8} {p : Nat} (h : Rr.num (s.drop p) = none) : Rr.numAt s p = (0, -1) := by unfold Rr.numAt; rw [h]
theorem numAt_go {s : List UInt8} {p k : Nat} {n : Int} (h : Rr.num (s.drop p) = some (n, k)) : Rr.numAt s p = (n, ((p + k : Nat) : Int)) := by unfold Rr.numAt; rw [h]
theorem low3 {B : Nat} {w W : World} (h : Below B w W) {b : Nat} (hb : B ≤ b) (v0 v1 v2 : Value) : Below B w (((W.setCell ⟨b, 0, none⟩ v0).setCell ⟨b, 1, none⟩ v1).setCell ⟨b, 2, none⟩ v2) :=
  ((h.setCell (p := ⟨b, 0, none⟩) hb v0).setCell (p := ⟨b, 1, none⟩) hb v1).setCell (p := ⟨b, 2, none⟩) hb v2
theorem rfacts {w W : World} {b1 b0 : Nat} {a0 a1 a2 c0 c1 c2 : Value} {T1 T0 : TypeId} (h : Mine w [(b1, #[a0, a1, a2], T1), (b0, #[c0, c1, c2], T0)] W) :
    W.cell? ⟨b1, 0, none⟩ = some a0 ∧ W.cell? ⟨b1, 1, none⟩ = some a1 ∧ W.cell? ⟨b1, 2, none⟩ = some a2 ∧ W.frozen? ⟨b1, 0, none⟩ = false ∧ W.frozen? ⟨b1, 1, none⟩ = false ∧ W.frozen? ⟨b1, 2, none⟩ = false ∧ b1 < W.heap.size ∧
      W.cell? ⟨b0, 0, none⟩ = some c0 ∧ W.cell? ⟨b0, 1, none⟩ = some c1 ∧ W.cell? ⟨b0, 2, none⟩ = some c2 ∧ W.frozen? ⟨b0, 0, none⟩ = false ∧ W.frozen? ⟨b0, 1, none⟩ = false ∧ W.frozen? ⟨b0, 2, none⟩ = false ∧ b0 < W.heap.size :=
  ⟨h.at 0 _ rfl, h.at 1 _ rfl, h.at 2 _ rfl, h.free 0, h.free 1, h.free 2, h.lt, h.drop.at 0 _ rfl, h.drop.at 1 _ rfl, h.drop.at 2 _ rfl, h.drop.free 0, h.drop.free 1, h.drop.free 2, h.drop.lt⟩
/-- Between two rounds: what is read, and where it goes on. -/
inductive RrdRel (w : World) (l : List UInt8) : Value → Value → World → Prop
  | s0 (wr : World) (M : Mine w [(w.heap.size + 1, #[.int .i64 0, .int .i64 0, .int .i64 0], 23), (w.heap.size, #[.int .i64 0, .int .i64 0, .int .i64 0], 23)] wr) : RrdRel w l (.int .i64 0) (.int .i64 0) wr
  | s1 (wr : World) (a : Int) (p : Nat) (hp : p ≤ l.length) (h1 : Rr.num1 46 l = some (a, l.drop p)) (M : Mine w [(w.heap.size + 1, #[.int .i64 a, .int .i64 0, .int .i64 0], 23), (w.heap.size, #[.int .i64 0, .int .i64 0, .int .i64 0], 23)] wr) : RrdRel w l (.int .i64 p) (.int .i64 1) wr
  | s2 (wr : World) (a b : Int) (p q : Nat) (hq : q ≤ l.length) (h1 : Rr.num1 46 l = some (a, l.drop p)) (h2 : Rr.num1 46 (l.drop p) = some (b, l.drop q)) (M : Mine w [(w.heap.size + 1, #[.int .i64 a, .int .i64 b, .int .i64 0], 23), (w.heap.size, #[.int .i64 0, .int .i64 0, .int .i64 0], 23)] wr) : RrdRel w l (.int .i64 q) (.int .i64 2) wr
  | s3 (wr : World) (a b c : Int) (p q r : Nat) (hr : r ≤ l.length) (h1 : Rr.num1 46 l = some (a, l.drop p)) (h2 : Rr.num1 46 (l.drop p) = some (b, l.drop q)) (h3 : Rr.num1 32 (l.drop q) = some (c, l.drop r)) (M : Mine w [(w.heap.size + 1, #[.int .i64 a, .int .i64 b, .int .i64 c], 23), (w.heap.size, #[.int .i64 0, .int .i64 0, .int .i64 0], 23)] wr) : RrdRel w l (.int .i64 r) (.int .i64 3) wr
set_option maxHeartbeats 16000000 in
theorem rread_any (code : Int) (hcls : Rp.cls code ≠ 0) (s : ByteArray) (w : World) (hs : s.size ≤ 1000000) :
    Calls Tryd.prog 30 #[.int .i64 code, .string s] w fun e w' => e = .returned (rdV (Rp.rd code s.data.toList)) ∧ Below w.heap.size w w' := by
  rw [← Rr.rd_same]
  have hl : s.data.toList.length = s.size := by simp
  have HL := Lib.hid hl
  have hat : ∀ p (hp : p < s.size) x, s[p]'hp = x → s.data.toList[p]? = some x := fun p hp x hx => List.getElem?_eq_some_iff.2 ⟨by omega, at_list s p hp x hx⟩
  have HAT := Aside.mk hat
  clear hat
  obtain ⟨l, hll⟩ : ∃ l, s.data.toList = l := ⟨_, rfl⟩
  have M : Aside (Mine w [(w.heap.size + 1, #[.int .i64 0, .int .i64 0, .int .i64 0], 23), (w.heap.size, #[.int .i64 0, .int .i64 0, .int .i64 0], 23)] ((w.alloc (.cells #[.int .i64 0, .int .i64 0, .int .i64 0] 23)).alloc (.cells #[.int .i64 0, .int .i64 0, .int .i64 0] 23))) := ⟨by have := ((Mine.start w).alloc #[.int .i64 0, .int .i64 0, .int .i64 0] 23).alloc #[.int .i64 0, .int .i64 0, .int .i64 0] 23; simpa using this⟩
  have hnum := fun p (hp : p ≤ s.size) W => number_at s p W (by omega) hp
  rw [hll] at hnum HAT HL ⊢
  rw [hll] at hl
  have HLL := Lib.hid hll
  clear hll
  go_enter Tryd.func30, Tryd.ntmps30
  go_wp2
  go_loopw [8, 9] (fun a i wr => RrdRel w l a i wr) (fun _ i _ => 3 - (intOf i).toNat)
  case atStart => exact .s0 _ M.out
  case round =>
    clear M
    cases hrel with
    | s0 _ M =>
      have M := Aside.mk M
      obtain ⟨z0, z1, z2, y0, y1, y2, zl, x0, x1, x2, u0, u1, u2, xl⟩ := rfacts M.out
      have hn := hnum 0 (by omega)
      cases hN : Rr.num (l.drop 0) with
      | none =>
        have HR := Lib.hid (Rr.rd_1 (code := code) (by have h6 := (num1_no hN : Rr.num1 46 (l.drop 0) = none); simpa using h6))
        rw [numAt_no hN] at hn
        rw [show ((0 : Nat) : Int) = 0 from rfl] at hn
        clear hN
        go_wp2_with (go_at_call 51; (with_reducible refine (hn _).mono ?_); rintro e w' ⟨rfl, hw⟩; have hw' := hw.symm; clear hw; subst hw')
        refine bodyPost_ret (v := rdV (0, 0, 0, [], false)) (by simp [results, Tryd.results30, go_sem, rdV, x0, x1, x2]) rfl ?_
        exact ⟨by rw [HR.out], low3 M.out.low (Nat.le_refl _) _ _ _⟩
      | some nj =>
        obtain ⟨n, j⟩ := nj
        rw [numAt_go hN] at hn
        obtain ⟨n0, n1, _, _, n4⟩ := Rr.num_some hN
        rw [List.length_drop] at n4
        obtain ⟨m, hm⟩ : ∃ m, 0 + j = m := ⟨_, rfl⟩
        rw [hm] at hn
        rw [show ((0 : Nat) : Int) = 0 from rfl] at hn
        by_cases hlt : m < s.size
        · obtain ⟨x, hx⟩ : ∃ x, s[m]'hlt = x := ⟨_, rfl⟩
          have hxl : (l.drop 0)[j]? = some x := by rw [List.getElem?_drop, hm]; exact HAT.out m hlt x hx
          by_cases hsep : (x.toNat : Int) = 46
          · have hxs : x = 46 := Rr.byte_ext (by rw [hsep]; rfl)
            have HGO : Hid (Rr.num1 46 l = some (n, l.drop (m + 1))) := Lib.hid (by have h7 : Rr.num1 46 (l.drop 0) = some (n, l.drop (m + 1)) := (by rw [num1_go hN (by rw [hxl, hxs]), List.drop_drop, ← hm, Nat.add_assoc]); simpa using h7)
            have hs0 : ((x.toNat : Int) == 46) = true := by simpa using hsep
            have hs1 : ((x.toNat : Int) != 46) = false := by simpa using hsep
            clear hxl hxs hN hm n4
            go_wp2_with (go_at_call 51; (with_reducible refine (hn _).mono ?_); rintro e w' ⟨rfl, hw⟩; have hw' := hw.symm; clear hw; subst hw')
            have Mx := M.out.set (by simp) 0 (.int .i64 n)
            go_roundw
            case rel => simpa using RrdRel.s1 _ n (m + 1) (by omega) HGO.out Mx
            case measure => simp [intOf]
          · have HR := Lib.hid (Rr.rd_1 (code := code) (by have h6 := (num1_other hN (by rw [hxl]; intro q_; injection q_ with q_; rw [q_] at hsep; exact hsep rfl) : Rr.num1 46 (l.drop 0) = none); simpa using h6))
            have hs0 : ((x.toNat : Int) == 46) = false := by simpa using hsep
            have hs1 : ((x.toNat : Int) != 46) = true := by simpa using hsep
            clear hxl hN hm n4
            go_wp2_with (go_at_call 51; (with_reducible refine (hn _).mono ?_); rintro e w' ⟨rfl, hw⟩; have hw' := hw.symm; clear hw; subst hw')
            refine bodyPost_ret (v := rdV (0, 0, 0, [], false)) (by simp [results, Tryd.results30, go_sem, rdV, x0, x1, x2]) rfl ?_
            exact ⟨by rw [HR.out], low3 M.out.low (Nat.le_refl _) _ _ _⟩
        · have HR := Lib.hid (Rr.rd_1 (code := code) (by have h6 := (num1_other hN (by rw [List.getElem?_eq_none (by rw [List.length_drop]; omega)]; simp) : Rr.num1 46 (l.drop 0) = none); simpa using h6))
          clear hN
          have hge : (s.size : Int) ≤ (m : Int) := by omega
          go_wp2_with (go_at_call 51; (with_reducible refine (hn _).mono ?_); rintro e w' ⟨rfl, hw⟩; have hw' := hw.symm; clear hw; subst hw')
          refine bodyPost_ret (v := rdV (0, 0, 0, [], false)) (by simp [results, Tryd.results30, go_sem, rdV, x0, x1, x2]) rfl ?_
          exact ⟨by rw [HR.out], low3 M.out.low (Nat.le_refl _) _ _ _⟩
    | s1 _ a p hp h1 M =>
      have M := Aside.mk M
      obtain ⟨z0, z1, z2, y0, y1, y2, zl, x0, x1, x2, u0, u1, u2, xl⟩ := rfacts M.out
      have hn := hnum p (by omega)
      cases hN : Rr.num (l.drop p) with
      | none =>
        have HR := Lib.hid (Rr.rd_2 (code := code) h1 (num1_no hN))
        rw [numAt_no hN] at hn
        clear hN
        go_wp2_with (go_at_call 51; (with_reducible refine (hn _).mono ?_); rintro e w' ⟨rfl, hw⟩; have hw' := hw.symm; clear hw; subst hw')
        refine bodyPost_ret (v := rdV (0, 0, 0, [], false)) (by simp [results, Tryd.results30, go_sem, rdV, x0, x1, x2]) rfl ?_
        exact ⟨by rw [HR.out], low3 M.out.low (Nat.le_refl _) _ _ _⟩
      | some nj =>
        obtain ⟨n, j⟩ := nj
        rw [numAt_go hN] at hn
        obtain ⟨n0, n1, _, _, n4⟩ := Rr.num_some hN
        rw [List.length_drop] at n4
        obtain ⟨m, hm⟩ : ∃ m, p + j = m := ⟨_, rfl⟩
        rw [hm] at hn
        by_cases hlt : m < s.size
        · obtain ⟨x, hx⟩ : ∃ x, s[m]'hlt = x := ⟨_, rfl⟩
          have hxl : (l.drop p)[j]? = some x := by rw [List.getElem?_drop, hm]; exact HAT.out m hlt x hx
          by_cases hsep : (x.toNat : Int) = 46
          · have hxs : x = 46 := Rr.byte_ext (by rw [hsep]; rfl)
            have HGO : Hid (Rr.num1 46 (l.drop p) = some (n, l.drop (m + 1))) := Lib.hid (by rw [num1_go hN (by rw [hxl, hxs]), List.drop_drop, ← hm, Nat.add_assoc])
            have hs0 : ((x.toNat : Int) == 46) = true := by simpa using hsep
            have hs1 : ((x.toNat : Int) != 46) = false := by simpa using hsep
            have H1 := Lib.hid h1; clear h1
            clear hxl hxs hN hm n4
            go_wp2_with (go_at_call 51; (with_reducible refine (hn _).mono ?_); rintro e w' ⟨rfl, hw⟩; have hw' := hw.symm; clear hw; subst hw')
            have Mx := M.out.set (by simp) 1 (.int .i64 n)
            go_roundw
            case rel => simpa using RrdRel.s2 _ a n p (m + 1) (by omega) H1.out HGO.out Mx
            case measure => simp [intOf]
          · have HR := Lib.hid (Rr.rd_2 (code := code) h1 (num1_other hN (by rw [hxl]; intro q_; injection q_ with q_; rw [q_] at hsep; exact hsep rfl)))
            have hs0 : ((x.toNat : Int) == 46) = false := by simpa using hsep
            have hs1 : ((x.toNat : Int) != 46) = true := by simpa using hsep
            clear hxl hN hm n4
            go_wp2_with (go_at_call 51; (with_reducible refine (hn _).mono ?_); rintro e w' ⟨rfl, hw⟩; have hw' := hw.symm; clear hw; subst hw')
            refine bodyPost_ret (v := rdV (0, 0, 0, [], false)) (by simp [results, Tryd.results30, go_sem, rdV, x0, x1, x2]) rfl ?_
            exact ⟨by rw [HR.out], low3 M.out.low (Nat.le_refl _) _ _ _⟩
        · have HR := Lib.hid (Rr.rd_2 (code := code) h1 (num1_other hN (by rw [List.getElem?_eq_none (by rw [List.length_drop]; omega)]; simp)))
          clear hN
          have hge : (s.size : Int) ≤ (m : Int) := by omega
          go_wp2_with (go_at_call 51; (with_reducible refine (hn _).mono ?_); rintro e w' ⟨rfl, hw⟩; have hw' := hw.symm; clear hw; subst hw')
          refine bodyPost_ret (v := rdV (0, 0, 0, [], false)) (by simp [results, Tryd.results30, go_sem, rdV, x0, x1, x2]) rfl ?_
          exact ⟨by rw [HR.out], low3 M.out.low (Nat.le_refl _) _ _ _⟩
    | s2 _ a b p q hq h1 h2 M =>
      have M := Aside.mk M
      obtain ⟨z0, z1, z2, y0, y1, y2, zl, x0, x1, x2, u0, u1, u2, xl⟩ := rfacts M.out
      have hn := hnum q (by omega)
      cases hN : Rr.num (l.drop q) with
      | none =>
        have HR := Lib.hid (Rr.rd_3 (code := code) h1 h2 (num1_no hN))
        rw [numAt_no hN] at hn
        clear hN
        go_wp2_with (go_at_call 51; (with_reducible refine (hn _).mono ?_); rintro e w' ⟨rfl, hw⟩; have hw' := hw.symm; clear hw; subst hw')
        refine bodyPost_ret (v := rdV (0, 0, 0, [], false)) (by simp [results, Tryd.results30, go_sem, rdV, x0, x1, x2]) rfl ?_
        exact ⟨by rw [HR.out], low3 M.out.low (Nat.le_refl _) _ _ _⟩
      | some nj =>
        obtain ⟨n, j⟩ := nj
        rw [numAt_go hN] at hn
        obtain ⟨n0, n1, _, _, n4⟩ := Rr.num_some hN
        rw [List.length_drop] at n4
        obtain ⟨m, hm⟩ : ∃ m, q + j = m := ⟨_, rfl⟩
        rw [hm] at hn
        by_cases hlt : m < s.size
        · obtain ⟨x, hx⟩ : ∃ x, s[m]'hlt = x := ⟨_, rfl⟩
          have hxl : (l.drop q)[j]? = some x := by rw [List.getElem?_drop, hm]; exact HAT.out m hlt x hx
          by_cases hsep : (x.toNat : Int) = 32
          · have hxs : x = 32 := Rr.byte_ext (by rw [hsep]; rfl)
            have HGO : Hid (Rr.num1 32 (l.drop q) = some (n, l.drop (m + 1))) := Lib.hid (by rw [num1_go hN (by rw [hxl, hxs]), List.drop_drop, ← hm, Nat.add_assoc])
            have hs0 : ((x.toNat : Int) == 32) = true := by simpa using hsep
            have hs1 : ((x.toNat : Int) != 32) = false := by simpa using hsep
            have H1 := Lib.hid h1; clear h1; have H2 := Lib.hid h2; clear h2
            clear hxl hxs hN hm n4
            go_wp2_with (go_at_call 51; (with_reducible refine (hn _).mono ?_); rintro e w' ⟨rfl, hw⟩; have hw' := hw.symm; clear hw; subst hw')
            have Mx := M.out.set (by simp) 2 (.int .i64 n)
            go_roundw
            case rel => simpa using RrdRel.s3 _ a b n p q (m + 1) (by omega) H1.out H2.out HGO.out Mx
            case measure => simp [intOf]
          · have HR := Lib.hid (Rr.rd_3 (code := code) h1 h2 (num1_other hN (by rw [hxl]; intro q_; injection q_ with q_; rw [q_] at hsep; exact hsep rfl)))
            have hs0 : ((x.toNat : Int) == 32) = false := by simpa using hsep
            have hs1 : ((x.toNat : Int) != 32) = true := by simpa using hsep
            clear hxl hN hm n4
            go_wp2_with (go_at_call 51; (with_reducible refine (hn _).mono ?_); rintro e w' ⟨rfl, hw⟩; have hw' := hw.symm; clear hw; subst hw')
            refine bodyPost_ret (v := rdV (0, 0, 0, [], false)) (by simp [results, Tryd.results30, go_sem, rdV, x0, x1, x2]) rfl ?_
            exact ⟨by rw [HR.out], low3 M.out.low (Nat.le_refl _) _ _ _⟩
        · have HR := Lib.hid (Rr.rd_3 (code := code) h1 h2 (num1_other hN (by rw [List.getElem?_eq_none (by rw [List.length_drop]; omega)]; simp)))
          clear hN
          have hge : (s.size : Int) ≤ (m : Int) := by omega
          go_wp2_with (go_at_call 51; (with_reducible refine (hn _).mono ?_); rintro e w' ⟨rfl, hw⟩; have hw' := hw.symm; clear hw; subst hw')
          refine bodyPost_ret (v := rdV (0, 0, 0, [], false)) (by simp [results, Tryd.results30, go_sem, rdV, x0, x1, x2]) rfl ?_
          exact ⟨by rw [HR.out], low3 M.out.low (Nat.le_refl _) _ _ _⟩
    | s3 _ a b c p q r hr h1 h2 h3 M =>
      have M := Aside.mk M
      have hrd := Rr.rd_some (code := code) h1 h2 h3
      clear h1 h2 h3
      obtain ⟨z0, z1, z2, y0, y1, y2, zl, x0, x1, x2, u0, u1, u2, xl⟩ := rfacts M.out
      cases hno : Rp.none3 a b c with
      | true =>
        have HR := Lib.hid (hrd.trans (if_pos (.inl hno)))
        clear hrd
        go_wp2_with (go_at_call 52; (with_reducible refine (rnone_any a b c _).mono ?_); rintro e w1 ⟨rfl, hb⟩; rw [hno]; replace M := Aside.mk (M.out.next hb); clear hb; (try clear z0 z1 z2 y0 y1 y2 zl x0 x1 x2 u0 u1 u2 xl); obtain ⟨z0, z1, z2, y0, y1, y2, zl, x0, x1, x2, u0, u1, u2, xl⟩ := rfacts M.out)
        refine bodyPost_ret (v := rdV (0, 0, 0, [], false)) (by simp [results, Tryd.results30, go_sem, rdV, x0, x1, x2]) rfl ?_
        exact ⟨by rw [HR.out], low3 M.out.low (Nat.le_refl _) _ _ _⟩
      | false =>
        cases hfi : Rp.fits code a b c with
        | false =>
          have HR := Lib.hid (hrd.trans (if_pos (.inr hfi)))
          clear hrd
          go_wp2_with (first | (go_at_call 52; (with_reducible refine (rnone_any a b c _).mono ?_); rintro e w1 ⟨rfl, hb⟩; rw [hno]; replace M := Aside.mk (M.out.next hb); clear hb; (try clear z0 z1 z2 y0 y1 y2 zl x0 x1 x2 u0 u1 u2 xl); obtain ⟨z0, z1, z2, y0, y1, y2, zl, x0, x1, x2, u0, u1, u2, xl⟩ := rfacts M.out) | (go_at_call 37; (with_reducible refine (rfits_any code a b c hcls _).mono ?_); rintro e w2 ⟨rfl, hb⟩; rw [hfi]; replace M := Aside.mk (M.out.next hb); clear hb; (try clear z0 z1 z2 y0 y1 y2 zl x0 x1 x2 u0 u1 u2 xl); obtain ⟨z0, z1, z2, y0, y1, y2, zl, x0, x1, x2, u0, u1, u2, xl⟩ := rfacts M.out))
          refine bodyPost_ret (v := rdV (0, 0, 0, [], false)) (by simp [results, Tryd.results30, go_sem, rdV, x0, x1, x2]) rfl ?_
          exact ⟨by rw [HR.out], low3 M.out.low (Nat.le_refl _) _ _ _⟩
        | true =>
          have HR := Lib.hid (hrd.trans (if_neg (by rw [hno, hfi]; simp)))
          clear hrd
          have hr1 : (r : Int) ≤ (s.size : Int) := by omega
          have hr2 : r ≤ s.size := by omega
          go_wp2_with (first | (go_at_call 52; (with_reducible refine (rnone_any a b c _).mono ?_); rintro e w1 ⟨rfl, hb⟩; rw [hno]; replace M := Aside.mk (M.out.next hb); clear hb; (try clear z0 z1 z2 y0 y1 y2 zl x0 x1 x2 u0 u1 u2 xl); obtain ⟨z0, z1, z2, y0, y1, y2, zl, x0, x1, x2, u0, u1, u2, xl⟩ := rfacts M.out) | (go_at_call 37; (with_reducible refine (rfits_any code a b c hcls _).mono ?_); rintro e w2 ⟨rfl, hb⟩; rw [hfi]; replace M := Aside.mk (M.out.next hb); clear hb; (try clear z0 z1 z2 y0 y1 y2 zl x0 x1 x2 u0 u1 u2 xl); obtain ⟨z0, z1, z2, y0, y1, y2, zl, x0, x1, x2, u0, u1, u2, xl⟩ := rfacts M.out))
          have HE : Hid ((s.extract r s.size) = (⟨(l.drop r).toArray⟩ : ByteArray)) := Lib.hid (by
            apply ByteArray.ext
            apply Array.toList_inj.1
            rw [← HLL.out]
            have hl2 : s.data.toList.length = s.size := by simp
            simp
            try (rw [List.take_of_length_le (by simp)]))
          go_region
          all_goals
            go_wp2
            refine bodyPost_ret (v := .tuple #[.agg #[.int .i64 a, .int .i64 b, .int .i64 c], .string (s.extract r s.size), .bool true]) (by simp [results, Tryd.results30, go_sem, x0, x1, x2]) rfl ?_
            exact ⟨by rw [HR.out, HE.out]; rfl, pw_below_drewN (low3 M.out.low (Nat.le_refl _) _ _ _) 1⟩
end Go.Proofs.YtfeedokfcebjjaaDoor
