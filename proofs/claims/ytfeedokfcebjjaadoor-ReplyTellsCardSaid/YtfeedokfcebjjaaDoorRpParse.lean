/-
  Walks of the package reply: Parse.
-/
import Derived.Test.YtfeedokfcebjjaaDoorRpParse0
set_option linter.unusedVariables false
set_option linter.unusedSimpArgs false
namespace Go.Proofs.YtfeedokfcebjjaaDoor
open Go.RowKit
set_option maxRecDepth 100000
attribute [local go_sem] equal3
theorem low5 {B : Nat} {w W : World} (h : Below B w W) {b : Nat} (hb : B ≤ b) (v0 v1 v2 v3 v4 : Value) : Below B w (((((W.setCell ⟨b, 0, none⟩ v0).setCell ⟨b, 1, none⟩ v1).setCell ⟨b, 2, none⟩ v2).setCell ⟨b, 3, none⟩ v3).setCell ⟨b, 4, none⟩ v4) :=
  ((((h.setCell (p := ⟨b, 0, none⟩) hb v0).setCell (p := ⟨b, 1, none⟩) hb v1).setCell (p := ⟨b, 2, none⟩) hb v2).setCell (p := ⟨b, 3, none⟩) hb v3).setCell (p := ⟨b, 4, none⟩) hb v4
/-- What Parse says. -/
def PsOut (l : List ByteArray) (w : World) (e : Ending) (w' : World) : Prop := Below w.heap.size w w' ∧
  (((Rp.prs 0 0 l).1 ≠ 0 ∧ e = .returned (.tuple #[.agg #[.int .i64 0, .int .i64 0, .int .i64 0, .int .i64 0, .slice none 0 0], .int .i64 0, .int .i64 (Rp.prs 0 0 l).1])) ∨
    ((Rp.prs 0 0 l).1 = 0 ∧ ∃ A' cp', e = .returned (.tuple #[.agg #[.int .i64 (Rp.prs 0 0 l).2.2, .int .i64 (Rp.body (Rp.prs 0 0 l).2.2 ((l.take (Rp.prs 0 0 l).2.1).map Rp.say)).1.1, .int .i64 (Rp.body (Rp.prs 0 0 l).2.2 ((l.take (Rp.prs 0 0 l).2.1).map Rp.say)).1.2.1, .int .i64 (Rp.body (Rp.prs 0 0 l).2.2 ((l.take (Rp.prs 0 0 l).2.1).map Rp.say)).1.2.2, .slice A' (Rp.prs 0 0 l).2.1 cp'], .int .i64 (Rp.prs 0 0 l).2.1, .int .i64 0]) ∧
      Strs w' A' (Rp.body (Rp.prs 0 0 l).2.2 ((l.take (Rp.prs 0 0 l).2.1).map Rp.say)).2))
theorem PsOut.bad {l : List ByteArray} {w w' : World} {x : Int} (hp : Rp.prs 0 0 l = (x, 0, 0)) (hx : x ≠ 0) (hb : Below w.heap.size w w') : PsOut l w (.returned (.tuple #[.agg #[.int .i64 0, .int .i64 0, .int .i64 0, .int .i64 0, .slice none 0 0], .int .i64 0, .int .i64 x])) w' :=
  ⟨hb, .inl ⟨by rw [hp]; exact hx, by rw [hp]⟩⟩
theorem PsOut.good {l : List ByteArray} {w w' : World} {k cp : Nat} {i n f1 f2 f3 : Int} {A : Option Addr} {xs : List ByteArray} (hp : Rp.prs 0 0 l = (0, k, n)) (hi : i = k) (hbo : Rp.body n ((l.take k).map Rp.say) = ((f1, f2, f3), xs)) (hs : Strs w' A xs) (hb : Below w.heap.size w w') :
    PsOut l w (.returned (.tuple #[.agg #[.int .i64 n, .int .i64 f1, .int .i64 f2, .int .i64 f3, .slice A k cp], .int .i64 i, .int .i64 0])) w' :=
  ⟨hb, .inr ⟨by rw [hp], A, cp, by rw [hp]; simp only; rw [hbo, hi], by rw [hp]; simp only; rw [hbo]; exact hs⟩⟩
theorem strs_low5 {W : World} {A : Option Addr} {xs : List ByteArray} {b : Nat} {T : TypeId} (h : Strs W A xs) (hb : Blk W b #[.int .i64 0, .int .i64 0, .int .i64 0, .int .i64 0, .slice none 0 0] T) (v0 v1 v2 v3 v4 : Value) : Strs (((((W.setCell ⟨b, 0, none⟩ v0).setCell ⟨b, 1, none⟩ v1).setCell ⟨b, 2, none⟩ v2).setCell ⟨b, 3, none⟩ v3).setCell ⟨b, 4, none⟩ v4) A xs := by
  intro hn
  obtain ⟨b', o, e, hl, hc⟩ := h hn
  have hne : b' ≠ b := by
    rintro rfl
    have h0 := hc 0 (List.length_pos_iff.2 hn)
    unfold World.cell? at h0
    rw [show W.heap[b']? = some (.cells #[.int .i64 0, .int .i64 0, .int .i64 0, .int .i64 0, .slice none 0 0] T (0, 0)) from hb] at h0
    simp at h0
    match o, h0 with
    | 0, h0 => simp at h0
    | 1, h0 => simp at h0
    | 2, h0 => simp at h0
    | 3, h0 => simp at h0
    | 4, h0 => simp at h0
    | n + 5, h0 => simp at h0
  refine ⟨b', o, e, by simpa using hl, fun j hj => ?_⟩
  rw [← hc j hj]
  unfold World.cell?
  simp only
  rw [Below.heap_setCell _ _ _ _ hne, Below.heap_setCell _ _ _ _ hne, Below.heap_setCell _ _ _ _ hne, Below.heap_setCell _ _ _ _ hne, Below.heap_setCell _ _ _ _ hne]
/-- Between two rounds of Parse. -/
def PsRel (l : List ByteArray) (w : World) (i : Value) (wr : World) : Prop := ∃ (k : Nat) (cd : Int) (v : Value), k ≤ l.length ∧ i = .int .i64 k ∧ Rp.prs 0 0 l = Rp.prs k cd (l.drop k) ∧ 0 ≤ cd ∧ cd ≤ 999 ∧
  Row wr w.heap.size v ((l.take k).map Rp.say) ∧ Mine w [(w.heap.size + 1, #[.int .i64 cd, .int .i64 0, .int .i64 0, .int .i64 0, v], 25), (w.heap.size, #[.int .i64 0, .int .i64 0, .int .i64 0, .int .i64 0, .slice none 0 0], 25)] wr
/-- What strip leaves, in one. -/
theorem strip_out {b : Nat} {code : Int} {t : List ByteArray} {A : Option Addr} {cp : Nat} {w w' : World} (h : Stripped b code t A cp w w') (hS : Strs w A t) (hB : b < w.heap.size) (hA : ∀ g, A = some g → g.block ≠ b) :
    ∃ f1 f2 f3 A' cp' xs, Blk w' b #[.int .i64 code, .int .i64 f1, .int .i64 f2, .int .i64 f3, .slice A' t.length cp'] 25 ∧ Strs w' A' xs ∧ Rp.body code t = ((f1, f2, f3), xs) := by
  obtain ⟨hc, ⟨h1, A', cp', hb, hs⟩ | ⟨h1, hb⟩⟩ := h
  · exact ⟨_, _, _, A', cp', _, hb, hs, by unfold Rp.body; rw [if_pos h1]⟩
  · refine ⟨0, 0, 0, A, cp, t, hb, ?_, by unfold Rp.body; rw [if_neg (by rw [h1]; simp)]⟩
    intro hn
    obtain ⟨b', o, e, hl, hcell⟩ := hS hn
    refine ⟨b', o, e, Nat.lt_of_lt_of_le hl hc.size, fun j hj => ?_⟩
    rw [← hcell j hj]
    unfold World.cell?
    rw [hc.block b' hl (hA _ e)]
theorem pfacts {w W : World} {b1 b0 : Nat} {a0 a1 a2 a3 a4 c0 c1 c2 c3 c4 : Value} {T1 T0 : TypeId} (h : Mine w [(b1, #[a0, a1, a2, a3, a4], T1), (b0, #[c0, c1, c2, c3, c4], T0)] W) :
    W.cell? ⟨b1, 0, none⟩ = some a0 ∧ W.cell? ⟨b1, 1, none⟩ = some a1 ∧ W.cell? ⟨b1, 2, none⟩ = some a2 ∧ W.cell? ⟨b1, 3, none⟩ = some a3 ∧ W.cell? ⟨b1, 4, none⟩ = some a4 ∧
      W.frozen? ⟨b1, 0, none⟩ = false ∧ W.frozen? ⟨b1, 1, none⟩ = false ∧ W.frozen? ⟨b1, 2, none⟩ = false ∧ W.frozen? ⟨b1, 3, none⟩ = false ∧ W.frozen? ⟨b1, 4, none⟩ = false ∧ b1 < W.heap.size ∧
      W.cell? ⟨b0, 0, none⟩ = some c0 ∧ W.cell? ⟨b0, 1, none⟩ = some c1 ∧ W.cell? ⟨b0, 2, none⟩ = some c2 ∧ W.cell? ⟨b0, 3, none⟩ = some c3 ∧ W.cell? ⟨b0, 4, none⟩ = some c4 ∧
      W.frozen? ⟨b0, 0, none⟩ = false ∧ W.frozen? ⟨b0, 1, none⟩ = false ∧ W.frozen? ⟨b0, 2, none⟩ = false ∧ W.frozen? ⟨b0, 3, none⟩ = false ∧ W.frozen? ⟨b0, 4, none⟩ = false ∧ b0 < W.heap.size :=
  ⟨h.at 0 _ rfl, h.at 1 _ rfl, h.at 2 _ rfl, h.at 3 _ rfl, h.at 4 _ rfl, h.free 0, h.free 1, h.free 2, h.free 3, h.free 4, h.lt, h.drop.at 0 _ rfl, h.drop.at 1 _ rfl, h.drop.at 2 _ rfl, h.drop.at 3 _ rfl, h.drop.at 4 _ rfl, h.drop.free 0, h.drop.free 1, h.drop.free 2, h.drop.free 3, h.drop.free 4, h.drop.lt⟩
set_option maxHeartbeats 20000000 in
theorem parse_any (l : List ByteArray) (A : Option Addr) (cp : Nat) (w : World) (hE : Env w) (hS : Strs w A l) (hs : ∀ s ∈ l, s.size ≤ 1000000) (hl : l.length ≤ 1000000) :
    Calls Tryd.prog 10 #[.slice A l.length cp] w fun e w' => PsOut l w e w' := by
  have HS := Aside.mk hS
  have Hs := Aside.mk hs
  clear hS hs
  have M0 : Aside (Mine w [(w.heap.size + 1, #[.int .i64 0, .int .i64 0, .int .i64 0, .int .i64 0, .slice none 0 0], 25), (w.heap.size, #[.int .i64 0, .int .i64 0, .int .i64 0, .int .i64 0, .slice none 0 0], 25)] ((w.alloc (.cells #[.int .i64 0, .int .i64 0, .int .i64 0, .int .i64 0, .slice none 0 0] 25)).alloc (.cells #[.int .i64 0, .int .i64 0, .int .i64 0, .int .i64 0, .slice none 0 0] 25))) := ⟨by have := ((Mine.start w).alloc #[.int .i64 0, .int .i64 0, .int .i64 0, .int .i64 0, .slice none 0 0] 25).alloc #[.int .i64 0, .int .i64 0, .int .i64 0, .int .i64 0, .slice none 0 0] 25; simpa using this⟩
  go_enter Tryd.func10, Tryd.ntmps10
  go_wp2
  go_loopw [13] (fun i wr => PsRel l w i wr) (fun i _ => l.length - (intOf i).toNat)
  case atStart => exact ⟨0, 0, _, by omega, rfl, rfl, by omega, by omega, Row.nil _ _, M0.out⟩
  case round =>
    clear M0
    obtain ⟨k, cd, v, hk, rfl, hprs, hcd0, hcd1, hrow, hmine⟩ := hrel
    have R := Aside.mk hrow
    have M := Aside.mk hmine
    clear hrow hmine
    obtain ⟨z0, z1, z2, z3, z4, y0, y1, y2, y3, y4, zl, x0, x1, x2, x3, x4, u0, u1, u2, u3, u4, xl⟩ := pfacts M.out
    by_cases hlt : k < l.length
    · obtain ⟨bb, oo, rfl, hbl, hcell⟩ := (HS.out.next M.out.low).at k hlt
      have hsz := Hs.out l[k] (List.getElem_mem _)
      have HT := Lib.hid (List.take_succ_eq_append_getElem (l := l) (i := k) hlt)
      rw [List.drop_eq_getElem_cons hlt] at hprs
      have HP := Lib.hid hprs
      clear hprs
      generalize l[k] = s at hcell hsz HT HP
      have hlen : s.data.toList.length = s.size := by simp
      have hsh := fun W => shown_any s W (by omega)
      by_cases h3 : s.size < 3
      ·
        have HBad : Hid (Rp.bad k cd s.data.toList = 2) := Lib.hid (Rp.bad_2 (.inl (by rw [Rp.code_short (by omega)]; rfl)))
        have q0 : ¬ (3 : Int) ≤ s.size := by omega
        have q1 : ((s.size : Int) == 3) = false := by simp; omega
        have q2 : ¬ (3 : Int) < s.size := by omega
        go_wp2_with (first | (go_at_call 24; (with_reducible refine (htrim _).mono ?_); rintro e w1 ⟨rfl, hb⟩; replace M := Aside.mk (M.out.next hb); replace R := Aside.mk (R.out.next hb); clear hb; (try clear z0 z1 z2 z3 z4 y0 y1 y2 y3 y4 zl x0 x1 x2 x3 x4 u0 u1 u2 u3 u4 xl); obtain ⟨z0, z1, z2, z3, z4, y0, y1, y2, y3, y4, zl, x0, x1, x2, x3, x4, u0, u1, u2, u3, u4, xl⟩ := pfacts M.out) | (go_at_call 25; (with_reducible refine (hatoi _).mono ?_); rintro e w2 ⟨rfl, hb⟩; replace M := Aside.mk (M.out.next hb); replace R := Aside.mk (R.out.next hb); clear hb; (try clear z0 z1 z2 z3 z4 y0 y1 y2 y3 y4 zl x0 x1 x2 x3 x4 u0 u1 u2 u3 u4 xl); obtain ⟨z0, z1, z2, z3, z4, y0, y1, y2, y3, y4, zl, x0, x1, x2, x3, x4, u0, u1, u2, u3, u4, xl⟩ := pfacts M.out) | (go_at_call 19; (with_reducible refine (class_any _ _).mono ?_); rintro e w' ⟨rfl, rfl⟩) | (go_at_call 26; (with_reducible refine (hsh _).mono ?_); rintro e w3 ⟨rfl, hb⟩; replace M := Aside.mk (M.out.next hb); replace R := Aside.mk (R.out.next hb); clear hb; (try clear z0 z1 z2 z3 z4 y0 y1 y2 y3 y4 zl x0 x1 x2 x3 x4 u0 u1 u2 u3 u4 xl); obtain ⟨z0, z1, z2, z3, z4, y0, y1, y2, y3, y4, zl, x0, x1, x2, x3, x4, u0, u1, u2, u3, u4, xl⟩ := pfacts M.out) | (go_at_call 23; (with_reducible refine (fail_any _ _).mono ?_); rintro e w4 ⟨rfl, hb⟩; replace M := Aside.mk (M.out.next hb); replace R := Aside.mk (R.out.next hb); clear hb; (try clear z0 z1 z2 z3 z4 y0 y1 y2 y3 y4 zl x0 x1 x2 x3 x4 u0 u1 u2 u3 u4 xl); obtain ⟨z0, z1, z2, z3, z4, y0, y1, y2, y3, y4, zl, x0, x1, x2, x3, x4, u0, u1, u2, u3, u4, xl⟩ := pfacts M.out))
        all_goals
          refine bodyPost_ret (v := .tuple #[.agg #[.int .i64 0, .int .i64 0, .int .i64 0, .int .i64 0, .slice none 0 0], .int .i64 0, .int .i64 2]) (by simp [results, Tryd.results10, go_sem, x0, x1, x2, x3, x4]) rfl ?_
          exact PsOut.bad (HP.out.trans (Rp.prs_bad HBad.out (by decide))) (by decide) (low5 M.out.low (Nat.le_refl _) _ _ _ _ _)
      ·
        obtain ⟨x, y, z, r, hxyz⟩ : ∃ x y z r, s.data.toList = x :: y :: z :: r := by
          match hx : s.data.toList, (by omega : 3 ≤ s.data.toList.length) with
          | x :: y :: z :: r, _ => exact ⟨x, y, z, r, rfl⟩
        have q0 : (3 : Int) ≤ s.size := by omega
        have he3 : (s.extract 0 3).data.toList = [x, y, z] := by simp [hxyz]
        have hs3 : (s.extract 0 3).size ≤ 3 := by simp; omega
        have htrim0 := fun W => trim_any (s.extract 0 3) W (by omega)
        rw [he3] at htrim0
        have hatoi0 := fun (hd : (Rp.dgt x && Rp.dgt y && Rp.dgt z) = true) W => atoi_ok (s.extract 0 3) (by omega) (Rp.val3 x y z) (by rw [he3]; exact Rp.atoi3 x y z hd) W
        have HX := Lib.hid hxyz
        clear he3 hs3
        cases r with
        | nil =>
          have q1 : ((s.size : Int) == 3) = true := by (have h4 : s.data.toList.length = 3 := (by rw [hxyz]; rfl)); simp; omega
          have HL : Hid (Rp.last s.data.toList = true) := Lib.hid (by rw [hxyz]; rfl)
          have HS0 : Hid (Rp.sgn s.data.toList = false) := Lib.hid (by rw [hxyz]; rfl)
          clear hxyz
          cases hd : (Rp.dgt x && Rp.dgt y && Rp.dgt z) with
          | false =>
            obtain ⟨a0, L0, hL⟩ : ∃ a0 L0, Lib.trimS [x, y, z] Rp.digs = a0 :: L0 := by
              cases hq : Lib.trimS [x, y, z] Rp.digs with
              | nil => have := (Rp.trim3 x y z).1 hq; rw [this] at hd; cases hd
              | cons a0 L0 => exact ⟨a0, L0, rfl⟩
            have htrim := htrim0
            rw [hL] at htrim
            clear htrim0 hatoi0 hL
            have HBad : Hid (Rp.bad k cd s.data.toList = 2) := Lib.hid (Rp.bad_2 (.inl (by rw [HX.out]; show Rp.cls (if (Rp.dgt x && Rp.dgt y && Rp.dgt z) = true then _ else 0) = 0; rw [hd]; rfl)))
            go_wp2_with (first | (go_at_call 24; (with_reducible refine (htrim _).mono ?_); rintro e w1 ⟨rfl, hb⟩; replace M := Aside.mk (M.out.next hb); replace R := Aside.mk (R.out.next hb); clear hb; (try clear z0 z1 z2 z3 z4 y0 y1 y2 y3 y4 zl x0 x1 x2 x3 x4 u0 u1 u2 u3 u4 xl); obtain ⟨z0, z1, z2, z3, z4, y0, y1, y2, y3, y4, zl, x0, x1, x2, x3, x4, u0, u1, u2, u3, u4, xl⟩ := pfacts M.out) | (go_at_call 25; (with_reducible refine (hatoi _).mono ?_); rintro e w2 ⟨rfl, hb⟩; replace M := Aside.mk (M.out.next hb); replace R := Aside.mk (R.out.next hb); clear hb; (try clear z0 z1 z2 z3 z4 y0 y1 y2 y3 y4 zl x0 x1 x2 x3 x4 u0 u1 u2 u3 u4 xl); obtain ⟨z0, z1, z2, z3, z4, y0, y1, y2, y3, y4, zl, x0, x1, x2, x3, x4, u0, u1, u2, u3, u4, xl⟩ := pfacts M.out) | (go_at_call 19; (with_reducible refine (class_any _ _).mono ?_); rintro e w' ⟨rfl, rfl⟩) | (go_at_call 26; (with_reducible refine (hsh _).mono ?_); rintro e w3 ⟨rfl, hb⟩; replace M := Aside.mk (M.out.next hb); replace R := Aside.mk (R.out.next hb); clear hb; (try clear z0 z1 z2 z3 z4 y0 y1 y2 y3 y4 zl x0 x1 x2 x3 x4 u0 u1 u2 u3 u4 xl); obtain ⟨z0, z1, z2, z3, z4, y0, y1, y2, y3, y4, zl, x0, x1, x2, x3, x4, u0, u1, u2, u3, u4, xl⟩ := pfacts M.out) | (go_at_call 23; (with_reducible refine (fail_any _ _).mono ?_); rintro e w4 ⟨rfl, hb⟩; replace M := Aside.mk (M.out.next hb); replace R := Aside.mk (R.out.next hb); clear hb; (try clear z0 z1 z2 z3 z4 y0 y1 y2 y3 y4 zl x0 x1 x2 x3 x4 u0 u1 u2 u3 u4 xl); obtain ⟨z0, z1, z2, z3, z4, y0, y1, y2, y3, y4, zl, x0, x1, x2, x3, x4, u0, u1, u2, u3, u4, xl⟩ := pfacts M.out))
            all_goals
              refine bodyPost_ret (v := .tuple #[.agg #[.int .i64 0, .int .i64 0, .int .i64 0, .int .i64 0, .slice none 0 0], .int .i64 0, .int .i64 2]) (by simp [results, Tryd.results10, go_sem, x0, x1, x2, x3, x4]) rfl ?_
              exact PsOut.bad (HP.out.trans (Rp.prs_bad HBad.out (by decide))) (by decide) (low5 M.out.low (Nat.le_refl _) _ _ _ _ _)
          | true =>
            have hq : Lib.trimS [x, y, z] Rp.digs = [] := (Rp.trim3 x y z).2 hd
            have htrim := htrim0
            rw [hq] at htrim
            have hatoi := hatoi0 hd
            clear htrim0 hatoi0
            have HC : Hid (Rp.code s.data.toList = Rp.val3 x y z) := Lib.hid (by rw [HX.out]; show (if (Rp.dgt x && Rp.dgt y && Rp.dgt z) = true then _ else _) = _; rw [hd]; rfl)
            have hv := Rp.val3_range x y z hd
            clear hd hq
            generalize Rp.val3 x y z = n at hatoi HC hv
            by_cases hcls : Rp.cls n = 0
            ·
              have e0 : ((Rp.cls n : Int) == 0) = true := by simpa using hcls
              have HBad : Hid (Rp.bad k cd s.data.toList = 2) := Lib.hid (Rp.bad_2 (.inl (by rw [HC.out]; exact hcls)))
              go_wp2_with (first | (go_at_call 24; (with_reducible refine (htrim _).mono ?_); rintro e w1 ⟨rfl, hb⟩; replace M := Aside.mk (M.out.next hb); replace R := Aside.mk (R.out.next hb); clear hb; (try clear z0 z1 z2 z3 z4 y0 y1 y2 y3 y4 zl x0 x1 x2 x3 x4 u0 u1 u2 u3 u4 xl); obtain ⟨z0, z1, z2, z3, z4, y0, y1, y2, y3, y4, zl, x0, x1, x2, x3, x4, u0, u1, u2, u3, u4, xl⟩ := pfacts M.out) | (go_at_call 25; (with_reducible refine (hatoi _).mono ?_); rintro e w2 ⟨rfl, hb⟩; replace M := Aside.mk (M.out.next hb); replace R := Aside.mk (R.out.next hb); clear hb; (try clear z0 z1 z2 z3 z4 y0 y1 y2 y3 y4 zl x0 x1 x2 x3 x4 u0 u1 u2 u3 u4 xl); obtain ⟨z0, z1, z2, z3, z4, y0, y1, y2, y3, y4, zl, x0, x1, x2, x3, x4, u0, u1, u2, u3, u4, xl⟩ := pfacts M.out) | (go_at_call 19; (with_reducible refine (class_any _ _).mono ?_); rintro e w' ⟨rfl, rfl⟩) | (go_at_call 26; (with_reducible refine (hsh _).mono ?_); rintro e w3 ⟨rfl, hb⟩; replace M := Aside.mk (M.out.next hb); replace R := Aside.mk (R.out.next hb); clear hb; (try clear z0 z1 z2 z3 z4 y0 y1 y2 y3 y4 zl x0 x1 x2 x3 x4 u0 u1 u2 u3 u4 xl); obtain ⟨z0, z1, z2, z3, z4, y0, y1, y2, y3, y4, zl, x0, x1, x2, x3, x4, u0, u1, u2, u3, u4, xl⟩ := pfacts M.out) | (go_at_call 23; (with_reducible refine (fail_any _ _).mono ?_); rintro e w4 ⟨rfl, hb⟩; replace M := Aside.mk (M.out.next hb); replace R := Aside.mk (R.out.next hb); clear hb; (try clear z0 z1 z2 z3 z4 y0 y1 y2 y3 y4 zl x0 x1 x2 x3 x4 u0 u1 u2 u3 u4 xl); obtain ⟨z0, z1, z2, z3, z4, y0, y1, y2, y3, y4, zl, x0, x1, x2, x3, x4, u0, u1, u2, u3, u4, xl⟩ := pfacts M.out))
              all_goals
                refine bodyPost_ret (v := .tuple #[.agg #[.int .i64 0, .int .i64 0, .int .i64 0, .int .i64 0, .slice none 0 0], .int .i64 0, .int .i64 2]) (by simp [results, Tryd.results10, go_sem, x0, x1, x2, x3, x4]) rfl ?_
                exact PsOut.bad (HP.out.trans (Rp.prs_bad HBad.out (by decide))) (by decide) (low5 M.out.low (Nat.le_refl _) _ _ _ _ _)
            ·
              have e0 : ((Rp.cls n : Int) == 0) = false := by simpa using hcls
              have HCl := Lib.hid hcls
              clear hcls
              rcases Nat.eq_zero_or_pos k with rfl | hk0
              ·
                simp only [Nat.add_zero] at hcell
                have HD : Hid (0 < 0 → Rp.code s.data.toList = cd) := Lib.hid (fun q => by omega)
                cases hv1 : Rp.shown s.data.toList with
                | false =>
                  rw [hv1] at hsh
                  have HBad : Hid (Rp.bad 0 cd s.data.toList = 2) := Lib.hid (Rp.bad_2 (.inr (.inr (.inr hv1))))
                  clear hv1
                  go_wp2_with (first | (go_at_call 24; (with_reducible refine (htrim _).mono ?_); rintro e w1 ⟨rfl, hb⟩; replace M := Aside.mk (M.out.next hb); replace R := Aside.mk (R.out.next hb); clear hb; (try clear z0 z1 z2 z3 z4 y0 y1 y2 y3 y4 zl x0 x1 x2 x3 x4 u0 u1 u2 u3 u4 xl); obtain ⟨z0, z1, z2, z3, z4, y0, y1, y2, y3, y4, zl, x0, x1, x2, x3, x4, u0, u1, u2, u3, u4, xl⟩ := pfacts M.out) | (go_at_call 25; (with_reducible refine (hatoi _).mono ?_); rintro e w2 ⟨rfl, hb⟩; replace M := Aside.mk (M.out.next hb); replace R := Aside.mk (R.out.next hb); clear hb; (try clear z0 z1 z2 z3 z4 y0 y1 y2 y3 y4 zl x0 x1 x2 x3 x4 u0 u1 u2 u3 u4 xl); obtain ⟨z0, z1, z2, z3, z4, y0, y1, y2, y3, y4, zl, x0, x1, x2, x3, x4, u0, u1, u2, u3, u4, xl⟩ := pfacts M.out) | (go_at_call 19; (with_reducible refine (class_any _ _).mono ?_); rintro e w' ⟨rfl, rfl⟩) | (go_at_call 26; (with_reducible refine (hsh _).mono ?_); rintro e w3 ⟨rfl, hb⟩; replace M := Aside.mk (M.out.next hb); replace R := Aside.mk (R.out.next hb); clear hb; (try clear z0 z1 z2 z3 z4 y0 y1 y2 y3 y4 zl x0 x1 x2 x3 x4 u0 u1 u2 u3 u4 xl); obtain ⟨z0, z1, z2, z3, z4, y0, y1, y2, y3, y4, zl, x0, x1, x2, x3, x4, u0, u1, u2, u3, u4, xl⟩ := pfacts M.out) | (go_at_call 23; (with_reducible refine (fail_any _ _).mono ?_); rintro e w4 ⟨rfl, hb⟩; replace M := Aside.mk (M.out.next hb); replace R := Aside.mk (R.out.next hb); clear hb; (try clear z0 z1 z2 z3 z4 y0 y1 y2 y3 y4 zl x0 x1 x2 x3 x4 u0 u1 u2 u3 u4 xl); obtain ⟨z0, z1, z2, z3, z4, y0, y1, y2, y3, y4, zl, x0, x1, x2, x3, x4, u0, u1, u2, u3, u4, xl⟩ := pfacts M.out))
                  all_goals
                    refine bodyPost_ret (v := .tuple #[.agg #[.int .i64 0, .int .i64 0, .int .i64 0, .int .i64 0, .slice none 0 0], .int .i64 0, .int .i64 2]) (by simp [results, Tryd.results10, go_sem, x0, x1, x2, x3, x4]) rfl ?_
                    exact PsOut.bad (HP.out.trans (Rp.prs_bad HBad.out (by decide))) (by decide) (low5 M.out.low (Nat.le_refl _) _ _ _ _ _)
                | true =>
                  rw [hv1] at hsh
                  have HV := Lib.hid hv1
                  clear hv1
                  have hlong : ¬ (510 : Int) < s.size := by simp at q1; omega
                  have HBad : Hid (Rp.bad 0 cd s.data.toList = 0) := Lib.hid (Rp.bad_0 (by rw [HC.out]; exact HCl.out) HD.out HS0.out HV.out (by omega) (by omega))
                  have hmin : min (4 : Int) (s.size : Int) = 3 := by simp at q1; omega
                  have hlo : 3 ≤ s.size := by simp at q1; omega
                  have HSay : Hid (s.extract 3 s.size = Rp.say s) := Lib.hid (Rp.say_3 (by simp at q1; omega))
                  go_wp2_with (first | (go_at_call 24; (with_reducible refine (htrim _).mono ?_); rintro e w1 ⟨rfl, hb⟩; replace M := Aside.mk (M.out.next hb); replace R := Aside.mk (R.out.next hb); clear hb; (try clear z0 z1 z2 z3 z4 y0 y1 y2 y3 y4 zl x0 x1 x2 x3 x4 u0 u1 u2 u3 u4 xl); obtain ⟨z0, z1, z2, z3, z4, y0, y1, y2, y3, y4, zl, x0, x1, x2, x3, x4, u0, u1, u2, u3, u4, xl⟩ := pfacts M.out) | (go_at_call 25; (with_reducible refine (hatoi _).mono ?_); rintro e w2 ⟨rfl, hb⟩; replace M := Aside.mk (M.out.next hb); replace R := Aside.mk (R.out.next hb); clear hb; (try clear z0 z1 z2 z3 z4 y0 y1 y2 y3 y4 zl x0 x1 x2 x3 x4 u0 u1 u2 u3 u4 xl); obtain ⟨z0, z1, z2, z3, z4, y0, y1, y2, y3, y4, zl, x0, x1, x2, x3, x4, u0, u1, u2, u3, u4, xl⟩ := pfacts M.out) | (go_at_call 19; (with_reducible refine (class_any _ _).mono ?_); rintro e w' ⟨rfl, rfl⟩) | (go_at_call 26; (with_reducible refine (hsh _).mono ?_); rintro e w3 ⟨rfl, hb⟩; replace M := Aside.mk (M.out.next hb); replace R := Aside.mk (R.out.next hb); clear hb; (try clear z0 z1 z2 z3 z4 y0 y1 y2 y3 y4 zl x0 x1 x2 x3 x4 u0 u1 u2 u3 u4 xl); obtain ⟨z0, z1, z2, z3, z4, y0, y1, y2, y3, y4, zl, x0, x1, x2, x3, x4, u0, u1, u2, u3, u4, xl⟩ := pfacts M.out) | (go_at_call 23; (with_reducible refine (fail_any _ _).mono ?_); rintro e w4 ⟨rfl, hb⟩; replace M := Aside.mk (M.out.next hb); replace R := Aside.mk (R.out.next hb); clear hb; (try clear z0 z1 z2 z3 z4 y0 y1 y2 y3 y4 zl x0 x1 x2 x3 x4 u0 u1 u2 u3 u4 xl); obtain ⟨z0, z1, z2, z3, z4, y0, y1, y2, y3, y4, zl, x0, x1, x2, x3, x4, u0, u1, u2, u3, u4, xl⟩ := pfacts M.out))
                  have hne1 := Row.ne R.out (M.out.own _ (List.mem_cons_self ..)).2 (show 25 ≠ 9 by decide)
                  replace R := Aside.mk ((R.out.setOther (a := ⟨w.heap.size + 1, 0, none⟩) hne1 (.int .i64 n)))
                  have M5 := Aside.mk (M.out.set (by simp) 0 (.int .i64 n))
                  clear hne1 M
                  have M : Aside (Mine w [(w.heap.size + 1, #[.int .i64 n, .int .i64 0, .int .i64 0, .int .i64 0, v], 25), (w.heap.size, #[.int .i64 0, .int .i64 0, .int .i64 0, .int .i64 0, .slice none 0 0], 25)] (((w3.setCell ⟨w.heap.size + 1, 0, none⟩ (.int .i64 n))))) := ⟨by simpa using M5.out⟩
                  clear M5
                  refine wp_region_held_drew (S := fun _ => True) (by kernel_rfl) trivial (fun hS_ => ?_)
                  refine wpAnyH_take (i := 0) (oi := ⟨some 94, _, _, _, _, _⟩) (v := ?_) rfl (by kernel_rfl) (by kernel_rfl) (by kernel_rfl) (fun _ _ _ h => h) (Or.inl ⟨by rfl, ?_⟩) hS_ ?_
                  rotate_left
                  · (intro w_ hSw_; first | (go_simp; done) | (go_simp; with_reducible rfl))
                  try simp only [Act.put, List.setIfInBounds_toArray, List.set_cons_zero, List.set_cons_succ]
                  refine wpAnyH_take (i := 2) (oi := ⟨some 96, _, _, _, _, _⟩) (v := ?_) rfl (by kernel_rfl) (by kernel_rfl) (by kernel_rfl) (fun _ _ _ h => h) (Or.inl ⟨by rfl, ?_⟩) hS_ ?_
                  rotate_left
                  · (intro w_ hSw_; first | (go_simp; done) | (go_simp; with_reducible rfl))
                  try simp only [Act.put, List.setIfInBounds_toArray, List.set_cons_zero, List.set_cons_succ]
                  refine wpAnyH_take (i := 3) (oi := ⟨some 97, _, _, _, _, _⟩) (v := ?_) rfl (by kernel_rfl) (by kernel_rfl) (by kernel_rfl) (fun _ _ _ h => h) (Or.inl ⟨by rfl, ?_⟩) hS_ ?_
                  rotate_left
                  · (intro w_ hSw_; first | (go_simp; done) | (go_simp; with_reducible rfl))
                  try simp only [Act.put, List.setIfInBounds_toArray, List.set_cons_zero, List.set_cons_succ]
                  refine wpAnyH_take (i := 4) (oi := ⟨some 98, _, _, _, _, _⟩) (v := ?_) rfl (by kernel_rfl) (by kernel_rfl) (by kernel_rfl) (fun _ _ _ h => h) (Or.inl ⟨by rfl, ?_⟩) hS_ ?_
                  rotate_left
                  · (intro w_ hSw_; first | (go_simp; done) | (go_simp; with_reducible rfl))
                  try simp only [Act.put, List.setIfInBounds_toArray, List.set_cons_zero, List.set_cons_succ]
                  refine wpAnyH_take (i := 5) (oi := ⟨some 99, _, _, _, _, _⟩) (v := ?_) rfl (by kernel_rfl) (by kernel_rfl) (by kernel_rfl) (fun _ _ _ h => h) (Or.inl ⟨by rfl, ?_⟩) hS_ ?_
                  rotate_left
                  · (intro w_ hSw_; first | (go_simp; done) | (go_simp; with_reducible rfl))
                  try simp only [Act.put, List.setIfInBounds_toArray, List.set_cons_zero, List.set_cons_succ]
                  refine wpAnyH_take (i := 6) (oi := ⟨some 100, _, _, _, _, _⟩) (v := ?_) rfl (by kernel_rfl) (by kernel_rfl) (by kernel_rfl) (fun _ _ _ h => h) (Or.inl ⟨by rfl, ?_⟩) hS_ ?_
                  rotate_left
                  · (intro w_ hSw_; first | (go_simp; done) | (go_simp; with_reducible rfl))
                  try simp only [Act.put, List.setIfInBounds_toArray, List.set_cons_zero, List.set_cons_succ]
                  refine wpAnyH_ready (rs := [1, 7]) (by kernel_rfl) (by simp) ?_
                  refine AllReadyH.cons rfl (fun K hK => ?_) (AllReadyH.cons rfl (fun K hK => ?_) AllReadyH.nil)
                  have c4_ := M.out.drew1.at 4 _ rfl
                  go_simp
                  clear c4_
                  refine hK.out _ _ trivial (fun hS_ => ?_)
                  clear hK
                  refine wpAnyH_ready (rs := [7]) (by kernel_rfl) (by simp) ?_
                  refine AllReadyH.cons rfl (fun K hK => ?_) AllReadyH.nil
                  go_simp
                  refine hK.out _ _ trivial (fun hS_ => ?_)
                  clear hK
                  refine wpAnyH_ready (rs := [8]) (by kernel_rfl) (by simp) ?_
                  refine AllReadyH.cons rfl (fun K hK => ?_) AllReadyH.nil
                  (refine app_step_n rfl _ _ rfl w.heap.size _ _ 0 (by simp <;> omega) (by rfl) (R.out.alloc _).drew1 _ (by rfl) (s.extract 3 s.size) (by have h_ : ((w3.setCell ⟨w.heap.size + 1, 0, none⟩ (.int .i64 n)).alloc (.cells #[.string (s.extract 3 s.size)] 9)).drew.heap[(w3.setCell ⟨w.heap.size + 1, 0, none⟩ (.int .i64 n)).heap.size]? = _ := heap_alloc_new _ _; simpa using h_) (by omega) ((M.out.allocO _).drew1.low.size) ?_; intro g cap w4 hrow4 hgrow4 _ _; have M6 := Aside.mk ((M.out.allocO _).drew1.app (R.out.alloc _).drew1 hgrow4 (by simp)); have R6 := Aside.mk hrow4; have hne2 := Row.ne R6.out (M6.out.own _ (List.mem_cons_self ..)).2 (show 25 ≠ 9 by decide); have R7 := Aside.mk (R6.out.setOther (a := ⟨w.heap.size + 1, 4, none⟩) hne2 (.slice (some ⟨g, 0, none⟩) (0 + 1) cap)); have M7 := Aside.mk (M6.out.set (by simp) 4 (.slice (some ⟨g, 0, none⟩) (0 + 1) cap)); clear R hne2 hrow4 hgrow4 M R6; (try clear z0 z1 z2 z3 z4 y0 y1 y2 y3 y4 zl x0 x1 x2 x3 x4 u0 u1 u2 u3 u4 xl); have M := M6; clear M6; obtain ⟨z0, z1, z2, z3, z4, y0, y1, y2, y3, y4, zl, x0, x1, x2, x3, x4, u0, u1, u2, u3, u4, xl⟩ := pfacts M.out)
                  refine hK.out _ _ trivial (fun hS_ => ?_)
                  clear hK
                  refine wpAnyH_take (i := 9) (oi := ⟨some 103, _, _, _, _, _⟩) (v := ?_) rfl (by kernel_rfl) (by kernel_rfl) (by kernel_rfl) (fun _ _ _ h => h) (Or.inl ⟨by rfl, ?_⟩) hS_ ?_
                  rotate_left
                  · (intro w_ hSw_; first | (go_simp; done) | (go_simp; with_reducible rfl))
                  try simp only [Act.put, List.setIfInBounds_toArray, List.set_cons_zero, List.set_cons_succ]
                  refine wpAnyH_ready (rs := [10]) (by kernel_rfl) (by simp) ?_
                  refine AllReadyH.cons rfl (fun K hK => ?_) AllReadyH.nil
                  go_simp
                  refine hK.out _ _ trivial (fun hS_ => ?_)
                  clear hK
                  refine wpAnyH_done (by kernel_rfl) ?_ _
                  rotate_left
                  go_simp
                  refine hK.out _ _ trivial (fun hS_ => ?_)
                  clear hK
                  refine wpAnyH_ready (rs := [1]) (by kernel_rfl) (by simp) ?_
                  refine AllReadyH.cons rfl (fun K hK => ?_) AllReadyH.nil
                  have c4_ := (M.out.allocO (.cells #[.string (s.extract 3 s.size)] 9)).drew1.at 4 _ rfl
                  go_simp
                  clear c4_
                  refine hK.out _ _ trivial (fun hS_ => ?_)
                  clear hK
                  refine wpAnyH_ready (rs := [8]) (by kernel_rfl) (by simp) ?_
                  refine AllReadyH.cons rfl (fun K hK => ?_) AllReadyH.nil
                  (refine app_step_n rfl _ _ rfl w.heap.size _ _ 0 (by simp <;> omega) (by rfl) (R.out.alloc _).drew1 _ (by rfl) (s.extract 3 s.size) (by have h_ : ((w3.setCell ⟨w.heap.size + 1, 0, none⟩ (.int .i64 n)).alloc (.cells #[.string (s.extract 3 s.size)] 9)).drew.heap[(w3.setCell ⟨w.heap.size + 1, 0, none⟩ (.int .i64 n)).heap.size]? = _ := heap_alloc_new _ _; simpa using h_) (by omega) ((M.out.allocO _).drew1.low.size) ?_; intro g cap w4 hrow4 hgrow4 _ _; have M6 := Aside.mk ((M.out.allocO _).drew1.app (R.out.alloc _).drew1 hgrow4 (by simp)); have R6 := Aside.mk hrow4; have hne2 := Row.ne R6.out (M6.out.own _ (List.mem_cons_self ..)).2 (show 25 ≠ 9 by decide); have R7 := Aside.mk (R6.out.setOther (a := ⟨w.heap.size + 1, 4, none⟩) hne2 (.slice (some ⟨g, 0, none⟩) (0 + 1) cap)); have M7 := Aside.mk (M6.out.set (by simp) 4 (.slice (some ⟨g, 0, none⟩) (0 + 1) cap)); clear R hne2 hrow4 hgrow4 M R6; (try clear z0 z1 z2 z3 z4 y0 y1 y2 y3 y4 zl x0 x1 x2 x3 x4 u0 u1 u2 u3 u4 xl); have M := M6; clear M6; obtain ⟨z0, z1, z2, z3, z4, y0, y1, y2, y3, y4, zl, x0, x1, x2, x3, x4, u0, u1, u2, u3, u4, xl⟩ := pfacts M.out)
                  refine hK.out _ _ trivial (fun hS_ => ?_)
                  clear hK
                  refine wpAnyH_take (i := 9) (oi := ⟨some 103, _, _, _, _, _⟩) (v := ?_) rfl (by kernel_rfl) (by kernel_rfl) (by kernel_rfl) (fun _ _ _ h => h) (Or.inl ⟨by rfl, ?_⟩) hS_ ?_
                  rotate_left
                  · (intro w_ hSw_; first | (go_simp; done) | (go_simp; with_reducible rfl))
                  try simp only [Act.put, List.setIfInBounds_toArray, List.set_cons_zero, List.set_cons_succ]
                  refine wpAnyH_ready (rs := [10]) (by kernel_rfl) (by simp) ?_
                  refine AllReadyH.cons rfl (fun K hK => ?_) AllReadyH.nil
                  go_simp
                  refine hK.out _ _ trivial (fun hS_ => ?_)
                  clear hK
                  refine wpAnyH_done (by kernel_rfl) ?_ _
                  rotate_left
                  all_goals
                    clear M; (try clear z0 z1 z2 z3 z4 y0 y1 y2 y3 y4 zl x0 x1 x2 x3 x4 u0 u1 u2 u3 u4 xl)
                    have M : Aside (Mine w [(w.heap.size + 1, #[.int .i64 n, .int .i64 0, .int .i64 0, .int .i64 0, .slice (some ⟨g, 0, none⟩) (0 + 1) cap], 25), (w.heap.size, #[.int .i64 0, .int .i64 0, .int .i64 0, .int .i64 0, .slice none 0 0], 25)] (w4.setCell ⟨w.heap.size + 1, 4, none⟩ (.slice (some ⟨g, 0, none⟩) (0 + 1) cap))) := ⟨by simpa using M7.out⟩
                    have R : Aside (Row (w4.setCell ⟨w.heap.size + 1, 4, none⟩ (.slice (some ⟨g, 0, none⟩) (0 + 1) cap)) w.heap.size (.slice (some ⟨g, 0, none⟩) (0 + 1) cap) ((l.take (0 + 1)).map Rp.say)) := ⟨by rw [HT.out]; simpa [HSay.out] using R7.out⟩
                    clear M7 R7
                    have HB7 : Aside (Blk (w4.setCell ⟨w.heap.size + 1, 4, none⟩ (.slice (some ⟨g, 0, none⟩) (0 + 1) cap)) (w.heap.size + 1) #[.int .i64 n, .int .i64 0, .int .i64 0, .int .i64 0, .slice (some ⟨g, 0, none⟩) ((l.take (0 + 1)).map Rp.say).length cap] 25) := ⟨by have := (M.out.own _ (List.mem_cons_self ..)).2; rw [List.length_map, List.length_take, Nat.min_eq_left (by omega)]; exact this⟩
                    have HS7 := Aside.mk R.out.strs
                    have hq7 : ∀ q ∈ (l.take (0 + 1)).map Rp.say, q.size < 4294967281 := by
                      intro q hq; obtain ⟨p, hp, rfl⟩ := List.mem_map.1 hq; have := Hs.out p (List.mem_of_mem_take hp); have := Rp.say_size p; omega
                    have HQ7 := Aside.mk hq7; clear hq7
                    have hst := fun W hW hB hS => strip_any (w.heap.size + 1) n ((l.take (0 + 1)).map Rp.say) (some ⟨g, 0, none⟩) cap W hW hB hS HQ7.out (by simp; omega) (by simp; omega)
                    have zl := Mine.lt M.out
                    have hgne := R.out.ne (M.out.own _ (List.mem_cons_self ..)).2 (show 25 ≠ 9 by decide)
                    go_wp2_with (go_at_call 27; (with_reducible refine (hst _ (hE.next M.out.low) HB7.out HS7.out).mono ?_); rintro e w8 ⟨⟨_, rfl⟩, h8⟩; obtain ⟨f1, f2, f3, A8, c8, xs8, hb8, hs8, hbody⟩ := strip_out h8 HS7.out zl (by intro q hq hq2; injection hq with hq; subst hq; simp only at hq2; subst hq2; exact hgne rfl); have H8 := Aside.mk hs8; have HBo := Lib.hid hbody; clear hs8 hbody; have z0 := Blk.cell hb8 0 _ rfl; have z1 := Blk.cell hb8 1 _ rfl; have z2 := Blk.cell hb8 2 _ rfl; have z3 := Blk.cell hb8 3 _ rfl; have z4 := Blk.cell hb8 4 _ rfl; have hx8 := Blk.chg (M.out.own _ (List.mem_cons_of_mem _ (List.mem_cons_self ..))).2 h8.1 (by simp); have low8 := Aside.mk (Chg.below M.out.low h8.1 (by intro q hq; omega) (Nat.le_of_lt (Nat.lt_of_le_of_lt (by omega) zl))); clear h8 hb8; have x0 := Blk.cell hx8 0 _ rfl; have x1 := Blk.cell hx8 1 _ rfl; have x2 := Blk.cell hx8 2 _ rfl; have x3 := Blk.cell hx8 3 _ rfl; have x4 := Blk.cell hx8 4 _ rfl; have u0 := Blk.free hx8 0; have u1 := Blk.free hx8 1; have u2 := Blk.free hx8 2; have u3 := Blk.free hx8 3; have u4 := Blk.free hx8 4; have HX8 := Aside.mk hx8; clear hx8)
                    refine bodyPost_ret (v := .tuple #[.agg #[.int .i64 n, .int .i64 f1, .int .i64 f2, .int .i64 f3, .slice A8 ((l.take (0 + 1)).map Rp.say).length c8], .int .i64 ((0 : Int) + 1), .int .i64 0]) (by simp [results, Tryd.results10, go_sem, x0, x1, x2, x3, x4]) rfl ?_
                    rw [List.length_map, List.length_take, Nat.min_eq_left (by omega)]
                    exact PsOut.good (by rw [HP.out, Rp.prs_last HBad.out HL.out, HC.out]) (by simp) HBo.out (strs_low5 H8.out HX8.out _ _ _ _ _) (low5 low8.out (Nat.le_refl _) _ _ _ _ _)
              ·
                have hkp : (0 : Int) < (k : Int) := by omega
                by_cases hcd : n = cd
                rotate_left
                ·
                  have hne : (n == cd) = false := by simpa using hcd
                  have dne : (n != cd) = true := by simp only [bne, hne]; rfl
                  have nne : decide (n = cd) = false := decide_eq_false hcd
                  have nn2 : ¬ n = cd := hcd
                  have HBad : Hid (Rp.bad k cd s.data.toList = 2) := Lib.hid (Rp.bad_2 (.inr (.inl ⟨hk0, by rw [HC.out]; exact hcd⟩)))
                  clear hcd
                  go_wp2_with (first | (go_at_call 24; (with_reducible refine (htrim _).mono ?_); rintro e w1 ⟨rfl, hb⟩; replace M := Aside.mk (M.out.next hb); replace R := Aside.mk (R.out.next hb); clear hb; (try clear z0 z1 z2 z3 z4 y0 y1 y2 y3 y4 zl x0 x1 x2 x3 x4 u0 u1 u2 u3 u4 xl); obtain ⟨z0, z1, z2, z3, z4, y0, y1, y2, y3, y4, zl, x0, x1, x2, x3, x4, u0, u1, u2, u3, u4, xl⟩ := pfacts M.out) | (go_at_call 25; (with_reducible refine (hatoi _).mono ?_); rintro e w2 ⟨rfl, hb⟩; replace M := Aside.mk (M.out.next hb); replace R := Aside.mk (R.out.next hb); clear hb; (try clear z0 z1 z2 z3 z4 y0 y1 y2 y3 y4 zl x0 x1 x2 x3 x4 u0 u1 u2 u3 u4 xl); obtain ⟨z0, z1, z2, z3, z4, y0, y1, y2, y3, y4, zl, x0, x1, x2, x3, x4, u0, u1, u2, u3, u4, xl⟩ := pfacts M.out) | (go_at_call 19; (with_reducible refine (class_any _ _).mono ?_); rintro e w' ⟨rfl, rfl⟩) | (go_at_call 26; (with_reducible refine (hsh _).mono ?_); rintro e w3 ⟨rfl, hb⟩; replace M := Aside.mk (M.out.next hb); replace R := Aside.mk (R.out.next hb); clear hb; (try clear z0 z1 z2 z3 z4 y0 y1 y2 y3 y4 zl x0 x1 x2 x3 x4 u0 u1 u2 u3 u4 xl); obtain ⟨z0, z1, z2, z3, z4, y0, y1, y2, y3, y4, zl, x0, x1, x2, x3, x4, u0, u1, u2, u3, u4, xl⟩ := pfacts M.out) | (go_at_call 23; (with_reducible refine (fail_any _ _).mono ?_); rintro e w4 ⟨rfl, hb⟩; replace M := Aside.mk (M.out.next hb); replace R := Aside.mk (R.out.next hb); clear hb; (try clear z0 z1 z2 z3 z4 y0 y1 y2 y3 y4 zl x0 x1 x2 x3 x4 u0 u1 u2 u3 u4 xl); obtain ⟨z0, z1, z2, z3, z4, y0, y1, y2, y3, y4, zl, x0, x1, x2, x3, x4, u0, u1, u2, u3, u4, xl⟩ := pfacts M.out))
                  all_goals
                    refine bodyPost_ret (v := .tuple #[.agg #[.int .i64 0, .int .i64 0, .int .i64 0, .int .i64 0, .slice none 0 0], .int .i64 0, .int .i64 2]) (by simp [results, Tryd.results10, go_sem, x0, x1, x2, x3, x4]) rfl ?_
                    exact PsOut.bad (HP.out.trans (Rp.prs_bad HBad.out (by decide))) (by decide) (low5 M.out.low (Nat.le_refl _) _ _ _ _ _)
                subst hcd
                have HD : Hid (0 < k → Rp.code s.data.toList = n) := Lib.hid (fun q => HC.out)
                cases hv1 : Rp.shown s.data.toList with
                | false =>
                  rw [hv1] at hsh
                  have HBad : Hid (Rp.bad k n s.data.toList = 2) := Lib.hid (Rp.bad_2 (.inr (.inr (.inr hv1))))
                  clear hv1
                  go_wp2_with (first | (go_at_call 24; (with_reducible refine (htrim _).mono ?_); rintro e w1 ⟨rfl, hb⟩; replace M := Aside.mk (M.out.next hb); replace R := Aside.mk (R.out.next hb); clear hb; (try clear z0 z1 z2 z3 z4 y0 y1 y2 y3 y4 zl x0 x1 x2 x3 x4 u0 u1 u2 u3 u4 xl); obtain ⟨z0, z1, z2, z3, z4, y0, y1, y2, y3, y4, zl, x0, x1, x2, x3, x4, u0, u1, u2, u3, u4, xl⟩ := pfacts M.out) | (go_at_call 25; (with_reducible refine (hatoi _).mono ?_); rintro e w2 ⟨rfl, hb⟩; replace M := Aside.mk (M.out.next hb); replace R := Aside.mk (R.out.next hb); clear hb; (try clear z0 z1 z2 z3 z4 y0 y1 y2 y3 y4 zl x0 x1 x2 x3 x4 u0 u1 u2 u3 u4 xl); obtain ⟨z0, z1, z2, z3, z4, y0, y1, y2, y3, y4, zl, x0, x1, x2, x3, x4, u0, u1, u2, u3, u4, xl⟩ := pfacts M.out) | (go_at_call 19; (with_reducible refine (class_any _ _).mono ?_); rintro e w' ⟨rfl, rfl⟩) | (go_at_call 26; (with_reducible refine (hsh _).mono ?_); rintro e w3 ⟨rfl, hb⟩; replace M := Aside.mk (M.out.next hb); replace R := Aside.mk (R.out.next hb); clear hb; (try clear z0 z1 z2 z3 z4 y0 y1 y2 y3 y4 zl x0 x1 x2 x3 x4 u0 u1 u2 u3 u4 xl); obtain ⟨z0, z1, z2, z3, z4, y0, y1, y2, y3, y4, zl, x0, x1, x2, x3, x4, u0, u1, u2, u3, u4, xl⟩ := pfacts M.out) | (go_at_call 23; (with_reducible refine (fail_any _ _).mono ?_); rintro e w4 ⟨rfl, hb⟩; replace M := Aside.mk (M.out.next hb); replace R := Aside.mk (R.out.next hb); clear hb; (try clear z0 z1 z2 z3 z4 y0 y1 y2 y3 y4 zl x0 x1 x2 x3 x4 u0 u1 u2 u3 u4 xl); obtain ⟨z0, z1, z2, z3, z4, y0, y1, y2, y3, y4, zl, x0, x1, x2, x3, x4, u0, u1, u2, u3, u4, xl⟩ := pfacts M.out))
                  all_goals
                    refine bodyPost_ret (v := .tuple #[.agg #[.int .i64 0, .int .i64 0, .int .i64 0, .int .i64 0, .slice none 0 0], .int .i64 0, .int .i64 2]) (by simp [results, Tryd.results10, go_sem, x0, x1, x2, x3, x4]) rfl ?_
                    exact PsOut.bad (HP.out.trans (Rp.prs_bad HBad.out (by decide))) (by decide) (low5 M.out.low (Nat.le_refl _) _ _ _ _ _)
                | true =>
                  rw [hv1] at hsh
                  have HV := Lib.hid hv1
                  clear hv1
                  have hlong : ¬ (510 : Int) < s.size := by simp at q1; omega
                  by_cases h32 : (32 : Int) ≤ (k : Int)
                  ·
                    have HBad : Hid (Rp.bad k n s.data.toList = 3) := Lib.hid (Rp.bad_3 (by rw [HC.out]; exact HCl.out) HD.out HS0.out HV.out (by omega))
                    go_wp2_with (first | (go_at_call 24; (with_reducible refine (htrim _).mono ?_); rintro e w1 ⟨rfl, hb⟩; replace M := Aside.mk (M.out.next hb); replace R := Aside.mk (R.out.next hb); clear hb; (try clear z0 z1 z2 z3 z4 y0 y1 y2 y3 y4 zl x0 x1 x2 x3 x4 u0 u1 u2 u3 u4 xl); obtain ⟨z0, z1, z2, z3, z4, y0, y1, y2, y3, y4, zl, x0, x1, x2, x3, x4, u0, u1, u2, u3, u4, xl⟩ := pfacts M.out) | (go_at_call 25; (with_reducible refine (hatoi _).mono ?_); rintro e w2 ⟨rfl, hb⟩; replace M := Aside.mk (M.out.next hb); replace R := Aside.mk (R.out.next hb); clear hb; (try clear z0 z1 z2 z3 z4 y0 y1 y2 y3 y4 zl x0 x1 x2 x3 x4 u0 u1 u2 u3 u4 xl); obtain ⟨z0, z1, z2, z3, z4, y0, y1, y2, y3, y4, zl, x0, x1, x2, x3, x4, u0, u1, u2, u3, u4, xl⟩ := pfacts M.out) | (go_at_call 19; (with_reducible refine (class_any _ _).mono ?_); rintro e w' ⟨rfl, rfl⟩) | (go_at_call 26; (with_reducible refine (hsh _).mono ?_); rintro e w3 ⟨rfl, hb⟩; replace M := Aside.mk (M.out.next hb); replace R := Aside.mk (R.out.next hb); clear hb; (try clear z0 z1 z2 z3 z4 y0 y1 y2 y3 y4 zl x0 x1 x2 x3 x4 u0 u1 u2 u3 u4 xl); obtain ⟨z0, z1, z2, z3, z4, y0, y1, y2, y3, y4, zl, x0, x1, x2, x3, x4, u0, u1, u2, u3, u4, xl⟩ := pfacts M.out) | (go_at_call 23; (with_reducible refine (fail_any _ _).mono ?_); rintro e w4 ⟨rfl, hb⟩; replace M := Aside.mk (M.out.next hb); replace R := Aside.mk (R.out.next hb); clear hb; (try clear z0 z1 z2 z3 z4 y0 y1 y2 y3 y4 zl x0 x1 x2 x3 x4 u0 u1 u2 u3 u4 xl); obtain ⟨z0, z1, z2, z3, z4, y0, y1, y2, y3, y4, zl, x0, x1, x2, x3, x4, u0, u1, u2, u3, u4, xl⟩ := pfacts M.out))
                    all_goals
                      refine bodyPost_ret (v := .tuple #[.agg #[.int .i64 0, .int .i64 0, .int .i64 0, .int .i64 0, .slice none 0 0], .int .i64 0, .int .i64 3]) (by simp [results, Tryd.results10, go_sem, x0, x1, x2, x3, x4]) rfl ?_
                      exact PsOut.bad (HP.out.trans (Rp.prs_bad HBad.out (by decide))) (by decide) (low5 M.out.low (Nat.le_refl _) _ _ _ _ _)
                  ·
                    have HBad : Hid (Rp.bad k n s.data.toList = 0) := Lib.hid (Rp.bad_0 (by rw [HC.out]; exact HCl.out) HD.out HS0.out HV.out (by omega) (by omega))
                    have hmin : min (4 : Int) (s.size : Int) = 3 := by simp at q1; omega
                    have hlo : 3 ≤ s.size := by simp at q1; omega
                    have HSay : Hid (s.extract 3 s.size = Rp.say s) := Lib.hid (Rp.say_3 (by simp at q1; omega))
                    go_wp2_with (first | (go_at_call 24; (with_reducible refine (htrim _).mono ?_); rintro e w1 ⟨rfl, hb⟩; replace M := Aside.mk (M.out.next hb); replace R := Aside.mk (R.out.next hb); clear hb; (try clear z0 z1 z2 z3 z4 y0 y1 y2 y3 y4 zl x0 x1 x2 x3 x4 u0 u1 u2 u3 u4 xl); obtain ⟨z0, z1, z2, z3, z4, y0, y1, y2, y3, y4, zl, x0, x1, x2, x3, x4, u0, u1, u2, u3, u4, xl⟩ := pfacts M.out) | (go_at_call 25; (with_reducible refine (hatoi _).mono ?_); rintro e w2 ⟨rfl, hb⟩; replace M := Aside.mk (M.out.next hb); replace R := Aside.mk (R.out.next hb); clear hb; (try clear z0 z1 z2 z3 z4 y0 y1 y2 y3 y4 zl x0 x1 x2 x3 x4 u0 u1 u2 u3 u4 xl); obtain ⟨z0, z1, z2, z3, z4, y0, y1, y2, y3, y4, zl, x0, x1, x2, x3, x4, u0, u1, u2, u3, u4, xl⟩ := pfacts M.out) | (go_at_call 19; (with_reducible refine (class_any _ _).mono ?_); rintro e w' ⟨rfl, rfl⟩) | (go_at_call 26; (with_reducible refine (hsh _).mono ?_); rintro e w3 ⟨rfl, hb⟩; replace M := Aside.mk (M.out.next hb); replace R := Aside.mk (R.out.next hb); clear hb; (try clear z0 z1 z2 z3 z4 y0 y1 y2 y3 y4 zl x0 x1 x2 x3 x4 u0 u1 u2 u3 u4 xl); obtain ⟨z0, z1, z2, z3, z4, y0, y1, y2, y3, y4, zl, x0, x1, x2, x3, x4, u0, u1, u2, u3, u4, xl⟩ := pfacts M.out) | (go_at_call 23; (with_reducible refine (fail_any _ _).mono ?_); rintro e w4 ⟨rfl, hb⟩; replace M := Aside.mk (M.out.next hb); replace R := Aside.mk (R.out.next hb); clear hb; (try clear z0 z1 z2 z3 z4 y0 y1 y2 y3 y4 zl x0 x1 x2 x3 x4 u0 u1 u2 u3 u4 xl); obtain ⟨z0, z1, z2, z3, z4, y0, y1, y2, y3, y4, zl, x0, x1, x2, x3, x4, u0, u1, u2, u3, u4, xl⟩ := pfacts M.out))
                    have hne1 := Row.ne R.out (M.out.own _ (List.mem_cons_self ..)).2 (show 25 ≠ 9 by decide)
                    replace R := Aside.mk ((R.out.setOther (a := ⟨w.heap.size + 1, 0, none⟩) hne1 (.int .i64 n)))
                    have M5 := Aside.mk (M.out.set (by simp) 0 (.int .i64 n))
                    clear hne1 M
                    have M : Aside (Mine w [(w.heap.size + 1, #[.int .i64 n, .int .i64 0, .int .i64 0, .int .i64 0, v], 25), (w.heap.size, #[.int .i64 0, .int .i64 0, .int .i64 0, .int .i64 0, .slice none 0 0], 25)] (((w3.setCell ⟨w.heap.size + 1, 0, none⟩ (.int .i64 n))))) := ⟨by simpa using M5.out⟩
                    clear M5
                    refine wp_region_held_drew (S := fun _ => True) (by kernel_rfl) trivial (fun hS_ => ?_)
                    refine wpAnyH_take (i := 0) (oi := ⟨some 94, _, _, _, _, _⟩) (v := ?_) rfl (by kernel_rfl) (by kernel_rfl) (by kernel_rfl) (fun _ _ _ h => h) (Or.inl ⟨by rfl, ?_⟩) hS_ ?_
                    rotate_left
                    · (intro w_ hSw_; first | (go_simp; done) | (go_simp; with_reducible rfl))
                    try simp only [Act.put, List.setIfInBounds_toArray, List.set_cons_zero, List.set_cons_succ]
                    refine wpAnyH_take (i := 2) (oi := ⟨some 96, _, _, _, _, _⟩) (v := ?_) rfl (by kernel_rfl) (by kernel_rfl) (by kernel_rfl) (fun _ _ _ h => h) (Or.inl ⟨by rfl, ?_⟩) hS_ ?_
                    rotate_left
                    · (intro w_ hSw_; first | (go_simp; done) | (go_simp; with_reducible rfl))
                    try simp only [Act.put, List.setIfInBounds_toArray, List.set_cons_zero, List.set_cons_succ]
                    refine wpAnyH_take (i := 3) (oi := ⟨some 97, _, _, _, _, _⟩) (v := ?_) rfl (by kernel_rfl) (by kernel_rfl) (by kernel_rfl) (fun _ _ _ h => h) (Or.inl ⟨by rfl, ?_⟩) hS_ ?_
                    rotate_left
                    · (intro w_ hSw_; first | (go_simp; done) | (go_simp; with_reducible rfl))
                    try simp only [Act.put, List.setIfInBounds_toArray, List.set_cons_zero, List.set_cons_succ]
                    refine wpAnyH_take (i := 4) (oi := ⟨some 98, _, _, _, _, _⟩) (v := ?_) rfl (by kernel_rfl) (by kernel_rfl) (by kernel_rfl) (fun _ _ _ h => h) (Or.inl ⟨by rfl, ?_⟩) hS_ ?_
                    rotate_left
                    · (intro w_ hSw_; first | (go_simp; done) | (go_simp; with_reducible rfl))
                    try simp only [Act.put, List.setIfInBounds_toArray, List.set_cons_zero, List.set_cons_succ]
                    refine wpAnyH_take (i := 5) (oi := ⟨some 99, _, _, _, _, _⟩) (v := ?_) rfl (by kernel_rfl) (by kernel_rfl) (by kernel_rfl) (fun _ _ _ h => h) (Or.inl ⟨by rfl, ?_⟩) hS_ ?_
                    rotate_left
                    · (intro w_ hSw_; first | (go_simp; done) | (go_simp; with_reducible rfl))
                    try simp only [Act.put, List.setIfInBounds_toArray, List.set_cons_zero, List.set_cons_succ]
                    refine wpAnyH_take (i := 6) (oi := ⟨some 100, _, _, _, _, _⟩) (v := ?_) rfl (by kernel_rfl) (by kernel_rfl) (by kernel_rfl) (fun _ _ _ h => h) (Or.inl ⟨by rfl, ?_⟩) hS_ ?_
                    rotate_left
                    · (intro w_ hSw_; first | (go_simp; done) | (go_simp; with_reducible rfl))
                    try simp only [Act.put, List.setIfInBounds_toArray, List.set_cons_zero, List.set_cons_succ]
                    refine wpAnyH_ready (rs := [1, 7]) (by kernel_rfl) (by simp) ?_
                    refine AllReadyH.cons rfl (fun K hK => ?_) (AllReadyH.cons rfl (fun K hK => ?_) AllReadyH.nil)
                    have c4_ := M.out.drew1.at 4 _ rfl
                    go_simp
                    clear c4_
                    refine hK.out _ _ trivial (fun hS_ => ?_)
                    clear hK
                    refine wpAnyH_ready (rs := [7]) (by kernel_rfl) (by simp) ?_
                    refine AllReadyH.cons rfl (fun K hK => ?_) AllReadyH.nil
                    go_simp
                    refine hK.out _ _ trivial (fun hS_ => ?_)
                    clear hK
                    refine wpAnyH_ready (rs := [8]) (by kernel_rfl) (by simp) ?_
                    refine AllReadyH.cons rfl (fun K hK => ?_) AllReadyH.nil
                    (refine app_step_n rfl _ _ rfl w.heap.size _ _ k (by simp <;> omega) (by rfl) (R.out.alloc _).drew1 _ (by rfl) (s.extract 3 s.size) (by have h_ : ((w3.setCell ⟨w.heap.size + 1, 0, none⟩ (.int .i64 n)).alloc (.cells #[.string (s.extract 3 s.size)] 9)).drew.heap[(w3.setCell ⟨w.heap.size + 1, 0, none⟩ (.int .i64 n)).heap.size]? = _ := heap_alloc_new _ _; simpa using h_) (by omega) ((M.out.allocO _).drew1.low.size) ?_; intro g cap w4 hrow4 hgrow4 _ _; have M6 := Aside.mk ((M.out.allocO _).drew1.app (R.out.alloc _).drew1 hgrow4 (by simp)); have R6 := Aside.mk hrow4; have hne2 := Row.ne R6.out (M6.out.own _ (List.mem_cons_self ..)).2 (show 25 ≠ 9 by decide); have R7 := Aside.mk (R6.out.setOther (a := ⟨w.heap.size + 1, 4, none⟩) hne2 (.slice (some ⟨g, 0, none⟩) (k + 1) cap)); have M7 := Aside.mk (M6.out.set (by simp) 4 (.slice (some ⟨g, 0, none⟩) (k + 1) cap)); clear R hne2 hrow4 hgrow4 M R6; (try clear z0 z1 z2 z3 z4 y0 y1 y2 y3 y4 zl x0 x1 x2 x3 x4 u0 u1 u2 u3 u4 xl); have M := M6; clear M6; obtain ⟨z0, z1, z2, z3, z4, y0, y1, y2, y3, y4, zl, x0, x1, x2, x3, x4, u0, u1, u2, u3, u4, xl⟩ := pfacts M.out)
                    refine hK.out _ _ trivial (fun hS_ => ?_)
                    clear hK
                    refine wpAnyH_take (i := 9) (oi := ⟨some 103, _, _, _, _, _⟩) (v := ?_) rfl (by kernel_rfl) (by kernel_rfl) (by kernel_rfl) (fun _ _ _ h => h) (Or.inl ⟨by rfl, ?_⟩) hS_ ?_
                    rotate_left
                    · (intro w_ hSw_; first | (go_simp; done) | (go_simp; with_reducible rfl))
                    try simp only [Act.put, List.setIfInBounds_toArray, List.set_cons_zero, List.set_cons_succ]
                    refine wpAnyH_ready (rs := [10]) (by kernel_rfl) (by simp) ?_
                    refine AllReadyH.cons rfl (fun K hK => ?_) AllReadyH.nil
                    go_simp
                    refine hK.out _ _ trivial (fun hS_ => ?_)
                    clear hK
                    refine wpAnyH_done (by kernel_rfl) ?_ _
                    rotate_left
                    go_simp
                    refine hK.out _ _ trivial (fun hS_ => ?_)
                    clear hK
                    refine wpAnyH_ready (rs := [1]) (by kernel_rfl) (by simp) ?_
                    refine AllReadyH.cons rfl (fun K hK => ?_) AllReadyH.nil
                    have c4_ := (M.out.allocO (.cells #[.string (s.extract 3 s.size)] 9)).drew1.at 4 _ rfl
                    go_simp
                    clear c4_
                    refine hK.out _ _ trivial (fun hS_ => ?_)
                    clear hK
                    refine wpAnyH_ready (rs := [8]) (by kernel_rfl) (by simp) ?_
                    refine AllReadyH.cons rfl (fun K hK => ?_) AllReadyH.nil
                    (refine app_step_n rfl _ _ rfl w.heap.size _ _ k (by simp <;> omega) (by rfl) (R.out.alloc _).drew1 _ (by rfl) (s.extract 3 s.size) (by have h_ : ((w3.setCell ⟨w.heap.size + 1, 0, none⟩ (.int .i64 n)).alloc (.cells #[.string (s.extract 3 s.size)] 9)).drew.heap[(w3.setCell ⟨w.heap.size + 1, 0, none⟩ (.int .i64 n)).heap.size]? = _ := heap_alloc_new _ _; simpa using h_) (by omega) ((M.out.allocO _).drew1.low.size) ?_; intro g cap w4 hrow4 hgrow4 _ _; have M6 := Aside.mk ((M.out.allocO _).drew1.app (R.out.alloc _).drew1 hgrow4 (by simp)); have R6 := Aside.mk hrow4; have hne2 := Row.ne R6.out (M6.out.own _ (List.mem_cons_self ..)).2 (show 25 ≠ 9 by decide); have R7 := Aside.mk (R6.out.setOther (a := ⟨w.heap.size + 1, 4, none⟩) hne2 (.slice (some ⟨g, 0, none⟩) (k + 1) cap)); have M7 := Aside.mk (M6.out.set (by simp) 4 (.slice (some ⟨g, 0, none⟩) (k + 1) cap)); clear R hne2 hrow4 hgrow4 M R6; (try clear z0 z1 z2 z3 z4 y0 y1 y2 y3 y4 zl x0 x1 x2 x3 x4 u0 u1 u2 u3 u4 xl); have M := M6; clear M6; obtain ⟨z0, z1, z2, z3, z4, y0, y1, y2, y3, y4, zl, x0, x1, x2, x3, x4, u0, u1, u2, u3, u4, xl⟩ := pfacts M.out)
                    refine hK.out _ _ trivial (fun hS_ => ?_)
                    clear hK
                    refine wpAnyH_take (i := 9) (oi := ⟨some 103, _, _, _, _, _⟩) (v := ?_) rfl (by kernel_rfl) (by kernel_rfl) (by kernel_rfl) (fun _ _ _ h => h) (Or.inl ⟨by rfl, ?_⟩) hS_ ?_
                    rotate_left
                    · (intro w_ hSw_; first | (go_simp; done) | (go_simp; with_reducible rfl))
                    try simp only [Act.put, List.setIfInBounds_toArray, List.set_cons_zero, List.set_cons_succ]
                    refine wpAnyH_ready (rs := [10]) (by kernel_rfl) (by simp) ?_
                    refine AllReadyH.cons rfl (fun K hK => ?_) AllReadyH.nil
                    go_simp
                    refine hK.out _ _ trivial (fun hS_ => ?_)
                    clear hK
                    refine wpAnyH_done (by kernel_rfl) ?_ _
                    rotate_left
                    all_goals
                      clear M; (try clear z0 z1 z2 z3 z4 y0 y1 y2 y3 y4 zl x0 x1 x2 x3 x4 u0 u1 u2 u3 u4 xl)
                      have M : Aside (Mine w [(w.heap.size + 1, #[.int .i64 n, .int .i64 0, .int .i64 0, .int .i64 0, .slice (some ⟨g, 0, none⟩) (k + 1) cap], 25), (w.heap.size, #[.int .i64 0, .int .i64 0, .int .i64 0, .int .i64 0, .slice none 0 0], 25)] (w4.setCell ⟨w.heap.size + 1, 4, none⟩ (.slice (some ⟨g, 0, none⟩) (k + 1) cap))) := ⟨by simpa using M7.out⟩
                      have R : Aside (Row (w4.setCell ⟨w.heap.size + 1, 4, none⟩ (.slice (some ⟨g, 0, none⟩) (k + 1) cap)) w.heap.size (.slice (some ⟨g, 0, none⟩) (k + 1) cap) ((l.take (k + 1)).map Rp.say)) := ⟨by rw [HT.out]; simpa [HSay.out] using R7.out⟩
                      clear M7 R7
                      have HB7 : Aside (Blk (w4.setCell ⟨w.heap.size + 1, 4, none⟩ (.slice (some ⟨g, 0, none⟩) (k + 1) cap)) (w.heap.size + 1) #[.int .i64 n, .int .i64 0, .int .i64 0, .int .i64 0, .slice (some ⟨g, 0, none⟩) ((l.take (k + 1)).map Rp.say).length cap] 25) := ⟨by have := (M.out.own _ (List.mem_cons_self ..)).2; rw [List.length_map, List.length_take, Nat.min_eq_left (by omega)]; exact this⟩
                      have HS7 := Aside.mk R.out.strs
                      have hq7 : ∀ q ∈ (l.take (k + 1)).map Rp.say, q.size < 4294967281 := by
                        intro q hq; obtain ⟨p, hp, rfl⟩ := List.mem_map.1 hq; have := Hs.out p (List.mem_of_mem_take hp); have := Rp.say_size p; omega
                      have HQ7 := Aside.mk hq7; clear hq7
                      have hst := fun W hW hB hS => strip_any (w.heap.size + 1) n ((l.take (k + 1)).map Rp.say) (some ⟨g, 0, none⟩) cap W hW hB hS HQ7.out (by simp; omega) (by simp; omega)
                      have zl := Mine.lt M.out
                      have hgne := R.out.ne (M.out.own _ (List.mem_cons_self ..)).2 (show 25 ≠ 9 by decide)
                      go_wp2_with (go_at_call 27; (with_reducible refine (hst _ (hE.next M.out.low) HB7.out HS7.out).mono ?_); rintro e w8 ⟨⟨_, rfl⟩, h8⟩; obtain ⟨f1, f2, f3, A8, c8, xs8, hb8, hs8, hbody⟩ := strip_out h8 HS7.out zl (by intro q hq hq2; injection hq with hq; subst hq; simp only at hq2; subst hq2; exact hgne rfl); have H8 := Aside.mk hs8; have HBo := Lib.hid hbody; clear hs8 hbody; have z0 := Blk.cell hb8 0 _ rfl; have z1 := Blk.cell hb8 1 _ rfl; have z2 := Blk.cell hb8 2 _ rfl; have z3 := Blk.cell hb8 3 _ rfl; have z4 := Blk.cell hb8 4 _ rfl; have hx8 := Blk.chg (M.out.own _ (List.mem_cons_of_mem _ (List.mem_cons_self ..))).2 h8.1 (by simp); have low8 := Aside.mk (Chg.below M.out.low h8.1 (by intro q hq; omega) (Nat.le_of_lt (Nat.lt_of_le_of_lt (by omega) zl))); clear h8 hb8; have x0 := Blk.cell hx8 0 _ rfl; have x1 := Blk.cell hx8 1 _ rfl; have x2 := Blk.cell hx8 2 _ rfl; have x3 := Blk.cell hx8 3 _ rfl; have x4 := Blk.cell hx8 4 _ rfl; have u0 := Blk.free hx8 0; have u1 := Blk.free hx8 1; have u2 := Blk.free hx8 2; have u3 := Blk.free hx8 3; have u4 := Blk.free hx8 4; have HX8 := Aside.mk hx8; clear hx8)
                      refine bodyPost_ret (v := .tuple #[.agg #[.int .i64 n, .int .i64 f1, .int .i64 f2, .int .i64 f3, .slice A8 ((l.take (k + 1)).map Rp.say).length c8], .int .i64 ((k : Int) + 1), .int .i64 0]) (by simp [results, Tryd.results10, go_sem, x0, x1, x2, x3, x4]) rfl ?_
                      rw [List.length_map, List.length_take, Nat.min_eq_left (by omega)]
                      exact PsOut.good (by rw [HP.out, Rp.prs_last HBad.out HL.out, HC.out]) (by simp) HBo.out (strs_low5 H8.out HX8.out _ _ _ _ _) (low5 low8.out (Nat.le_refl _) _ _ _ _ _)
        | cons c r =>
          have q1 : ((s.size : Int) == 3) = false := by (have h4 : 4 ≤ s.data.toList.length := (by rw [hxyz]; simp)); simp; omega
          have q2 : (3 : Int) < s.size := by simp at q1; omega
          have hget0 : s.data[3]? = some c := by (have h4 : s.data.toList[3]? = some c := (by rw [hxyz]; rfl)); simpa using h4
          have hget : s[3]'(by omega) = c := (Array.getElem?_eq_some_iff.1 hget0).2
          clear hget0
          by_cases c32 : c = 32
          ·
            subst c32
            have HL : Hid (Rp.last s.data.toList = true) := Lib.hid (by rw [hxyz]; rfl)
            have HS0 : Hid (Rp.sgn s.data.toList = false) := Lib.hid (by rw [hxyz]; rfl)
            clear hxyz
            cases hd : (Rp.dgt x && Rp.dgt y && Rp.dgt z) with
            | false =>
              obtain ⟨a0, L0, hL⟩ : ∃ a0 L0, Lib.trimS [x, y, z] Rp.digs = a0 :: L0 := by
                cases hq : Lib.trimS [x, y, z] Rp.digs with
                | nil => have := (Rp.trim3 x y z).1 hq; rw [this] at hd; cases hd
                | cons a0 L0 => exact ⟨a0, L0, rfl⟩
              have htrim := htrim0
              rw [hL] at htrim
              clear htrim0 hatoi0 hL
              have HBad : Hid (Rp.bad k cd s.data.toList = 2) := Lib.hid (Rp.bad_2 (.inl (by rw [HX.out]; show Rp.cls (if (Rp.dgt x && Rp.dgt y && Rp.dgt z) = true then _ else 0) = 0; rw [hd]; rfl)))
              go_wp2_with (first | (go_at_call 24; (with_reducible refine (htrim _).mono ?_); rintro e w1 ⟨rfl, hb⟩; replace M := Aside.mk (M.out.next hb); replace R := Aside.mk (R.out.next hb); clear hb; (try clear z0 z1 z2 z3 z4 y0 y1 y2 y3 y4 zl x0 x1 x2 x3 x4 u0 u1 u2 u3 u4 xl); obtain ⟨z0, z1, z2, z3, z4, y0, y1, y2, y3, y4, zl, x0, x1, x2, x3, x4, u0, u1, u2, u3, u4, xl⟩ := pfacts M.out) | (go_at_call 25; (with_reducible refine (hatoi _).mono ?_); rintro e w2 ⟨rfl, hb⟩; replace M := Aside.mk (M.out.next hb); replace R := Aside.mk (R.out.next hb); clear hb; (try clear z0 z1 z2 z3 z4 y0 y1 y2 y3 y4 zl x0 x1 x2 x3 x4 u0 u1 u2 u3 u4 xl); obtain ⟨z0, z1, z2, z3, z4, y0, y1, y2, y3, y4, zl, x0, x1, x2, x3, x4, u0, u1, u2, u3, u4, xl⟩ := pfacts M.out) | (go_at_call 19; (with_reducible refine (class_any _ _).mono ?_); rintro e w' ⟨rfl, rfl⟩) | (go_at_call 26; (with_reducible refine (hsh _).mono ?_); rintro e w3 ⟨rfl, hb⟩; replace M := Aside.mk (M.out.next hb); replace R := Aside.mk (R.out.next hb); clear hb; (try clear z0 z1 z2 z3 z4 y0 y1 y2 y3 y4 zl x0 x1 x2 x3 x4 u0 u1 u2 u3 u4 xl); obtain ⟨z0, z1, z2, z3, z4, y0, y1, y2, y3, y4, zl, x0, x1, x2, x3, x4, u0, u1, u2, u3, u4, xl⟩ := pfacts M.out) | (go_at_call 23; (with_reducible refine (fail_any _ _).mono ?_); rintro e w4 ⟨rfl, hb⟩; replace M := Aside.mk (M.out.next hb); replace R := Aside.mk (R.out.next hb); clear hb; (try clear z0 z1 z2 z3 z4 y0 y1 y2 y3 y4 zl x0 x1 x2 x3 x4 u0 u1 u2 u3 u4 xl); obtain ⟨z0, z1, z2, z3, z4, y0, y1, y2, y3, y4, zl, x0, x1, x2, x3, x4, u0, u1, u2, u3, u4, xl⟩ := pfacts M.out))
              all_goals
                refine bodyPost_ret (v := .tuple #[.agg #[.int .i64 0, .int .i64 0, .int .i64 0, .int .i64 0, .slice none 0 0], .int .i64 0, .int .i64 2]) (by simp [results, Tryd.results10, go_sem, x0, x1, x2, x3, x4]) rfl ?_
                exact PsOut.bad (HP.out.trans (Rp.prs_bad HBad.out (by decide))) (by decide) (low5 M.out.low (Nat.le_refl _) _ _ _ _ _)
            | true =>
              have hq : Lib.trimS [x, y, z] Rp.digs = [] := (Rp.trim3 x y z).2 hd
              have htrim := htrim0
              rw [hq] at htrim
              have hatoi := hatoi0 hd
              clear htrim0 hatoi0
              have HC : Hid (Rp.code s.data.toList = Rp.val3 x y z) := Lib.hid (by rw [HX.out]; show (if (Rp.dgt x && Rp.dgt y && Rp.dgt z) = true then _ else _) = _; rw [hd]; rfl)
              have hv := Rp.val3_range x y z hd
              clear hd hq
              generalize Rp.val3 x y z = n at hatoi HC hv
              by_cases hcls : Rp.cls n = 0
              ·
                have e0 : ((Rp.cls n : Int) == 0) = true := by simpa using hcls
                have HBad : Hid (Rp.bad k cd s.data.toList = 2) := Lib.hid (Rp.bad_2 (.inl (by rw [HC.out]; exact hcls)))
                go_wp2_with (first | (go_at_call 24; (with_reducible refine (htrim _).mono ?_); rintro e w1 ⟨rfl, hb⟩; replace M := Aside.mk (M.out.next hb); replace R := Aside.mk (R.out.next hb); clear hb; (try clear z0 z1 z2 z3 z4 y0 y1 y2 y3 y4 zl x0 x1 x2 x3 x4 u0 u1 u2 u3 u4 xl); obtain ⟨z0, z1, z2, z3, z4, y0, y1, y2, y3, y4, zl, x0, x1, x2, x3, x4, u0, u1, u2, u3, u4, xl⟩ := pfacts M.out) | (go_at_call 25; (with_reducible refine (hatoi _).mono ?_); rintro e w2 ⟨rfl, hb⟩; replace M := Aside.mk (M.out.next hb); replace R := Aside.mk (R.out.next hb); clear hb; (try clear z0 z1 z2 z3 z4 y0 y1 y2 y3 y4 zl x0 x1 x2 x3 x4 u0 u1 u2 u3 u4 xl); obtain ⟨z0, z1, z2, z3, z4, y0, y1, y2, y3, y4, zl, x0, x1, x2, x3, x4, u0, u1, u2, u3, u4, xl⟩ := pfacts M.out) | (go_at_call 19; (with_reducible refine (class_any _ _).mono ?_); rintro e w' ⟨rfl, rfl⟩) | (go_at_call 26; (with_reducible refine (hsh _).mono ?_); rintro e w3 ⟨rfl, hb⟩; replace M := Aside.mk (M.out.next hb); replace R := Aside.mk (R.out.next hb); clear hb; (try clear z0 z1 z2 z3 z4 y0 y1 y2 y3 y4 zl x0 x1 x2 x3 x4 u0 u1 u2 u3 u4 xl); obtain ⟨z0, z1, z2, z3, z4, y0, y1, y2, y3, y4, zl, x0, x1, x2, x3, x4, u0, u1, u2, u3, u4, xl⟩ := pfacts M.out) | (go_at_call 23; (with_reducible refine (fail_any _ _).mono ?_); rintro e w4 ⟨rfl, hb⟩; replace M := Aside.mk (M.out.next hb); replace R := Aside.mk (R.out.next hb); clear hb; (try clear z0 z1 z2 z3 z4 y0 y1 y2 y3 y4 zl x0 x1 x2 x3 x4 u0 u1 u2 u3 u4 xl); obtain ⟨z0, z1, z2, z3, z4, y0, y1, y2, y3, y4, zl, x0, x1, x2, x3, x4, u0, u1, u2, u3, u4, xl⟩ := pfacts M.out))
                all_goals
                  refine bodyPost_ret (v := .tuple #[.agg #[.int .i64 0, .int .i64 0, .int .i64 0, .int .i64 0, .slice none 0 0], .int .i64 0, .int .i64 2]) (by simp [results, Tryd.results10, go_sem, x0, x1, x2, x3, x4]) rfl ?_
                  exact PsOut.bad (HP.out.trans (Rp.prs_bad HBad.out (by decide))) (by decide) (low5 M.out.low (Nat.le_refl _) _ _ _ _ _)
              ·
                have e0 : ((Rp.cls n : Int) == 0) = false := by simpa using hcls
                have HCl := Lib.hid hcls
                clear hcls
                rcases Nat.eq_zero_or_pos k with rfl | hk0
                ·
                  simp only [Nat.add_zero] at hcell
                  have HD : Hid (0 < 0 → Rp.code s.data.toList = cd) := Lib.hid (fun q => by omega)
                  cases hv1 : Rp.shown s.data.toList with
                  | false =>
                    rw [hv1] at hsh
                    have HBad : Hid (Rp.bad 0 cd s.data.toList = 2) := Lib.hid (Rp.bad_2 (.inr (.inr (.inr hv1))))
                    clear hv1
                    go_wp2_with (first | (go_at_call 24; (with_reducible refine (htrim _).mono ?_); rintro e w1 ⟨rfl, hb⟩; replace M := Aside.mk (M.out.next hb); replace R := Aside.mk (R.out.next hb); clear hb; (try clear z0 z1 z2 z3 z4 y0 y1 y2 y3 y4 zl x0 x1 x2 x3 x4 u0 u1 u2 u3 u4 xl); obtain ⟨z0, z1, z2, z3, z4, y0, y1, y2, y3, y4, zl, x0, x1, x2, x3, x4, u0, u1, u2, u3, u4, xl⟩ := pfacts M.out) | (go_at_call 25; (with_reducible refine (hatoi _).mono ?_); rintro e w2 ⟨rfl, hb⟩; replace M := Aside.mk (M.out.next hb); replace R := Aside.mk (R.out.next hb); clear hb; (try clear z0 z1 z2 z3 z4 y0 y1 y2 y3 y4 zl x0 x1 x2 x3 x4 u0 u1 u2 u3 u4 xl); obtain ⟨z0, z1, z2, z3, z4, y0, y1, y2, y3, y4, zl, x0, x1, x2, x3, x4, u0, u1, u2, u3, u4, xl⟩ := pfacts M.out) | (go_at_call 19; (with_reducible refine (class_any _ _).mono ?_); rintro e w' ⟨rfl, rfl⟩) | (go_at_call 26; (with_reducible refine (hsh _).mono ?_); rintro e w3 ⟨rfl, hb⟩; replace M := Aside.mk (M.out.next hb); replace R := Aside.mk (R.out.next hb); clear hb; (try clear z0 z1 z2 z3 z4 y0 y1 y2 y3 y4 zl x0 x1 x2 x3 x4 u0 u1 u2 u3 u4 xl); obtain ⟨z0, z1, z2, z3, z4, y0, y1, y2, y3, y4, zl, x0, x1, x2, x3, x4, u0, u1, u2, u3, u4, xl⟩ := pfacts M.out) | (go_at_call 23; (with_reducible refine (fail_any _ _).mono ?_); rintro e w4 ⟨rfl, hb⟩; replace M := Aside.mk (M.out.next hb); replace R := Aside.mk (R.out.next hb); clear hb; (try clear z0 z1 z2 z3 z4 y0 y1 y2 y3 y4 zl x0 x1 x2 x3 x4 u0 u1 u2 u3 u4 xl); obtain ⟨z0, z1, z2, z3, z4, y0, y1, y2, y3, y4, zl, x0, x1, x2, x3, x4, u0, u1, u2, u3, u4, xl⟩ := pfacts M.out))
                    all_goals
                      refine bodyPost_ret (v := .tuple #[.agg #[.int .i64 0, .int .i64 0, .int .i64 0, .int .i64 0, .slice none 0 0], .int .i64 0, .int .i64 2]) (by simp [results, Tryd.results10, go_sem, x0, x1, x2, x3, x4]) rfl ?_
                      exact PsOut.bad (HP.out.trans (Rp.prs_bad HBad.out (by decide))) (by decide) (low5 M.out.low (Nat.le_refl _) _ _ _ _ _)
                  | true =>
                    rw [hv1] at hsh
                    have HV := Lib.hid hv1
                    clear hv1
                    by_cases hlong : (510 : Int) < s.size
                    ·
                      have HBad : Hid (Rp.bad 0 cd s.data.toList = 3) := Lib.hid (Rp.bad_3 (by rw [HC.out]; exact HCl.out) HD.out HS0.out HV.out (by omega))
                      go_wp2_with (first | (go_at_call 24; (with_reducible refine (htrim _).mono ?_); rintro e w1 ⟨rfl, hb⟩; replace M := Aside.mk (M.out.next hb); replace R := Aside.mk (R.out.next hb); clear hb; (try clear z0 z1 z2 z3 z4 y0 y1 y2 y3 y4 zl x0 x1 x2 x3 x4 u0 u1 u2 u3 u4 xl); obtain ⟨z0, z1, z2, z3, z4, y0, y1, y2, y3, y4, zl, x0, x1, x2, x3, x4, u0, u1, u2, u3, u4, xl⟩ := pfacts M.out) | (go_at_call 25; (with_reducible refine (hatoi _).mono ?_); rintro e w2 ⟨rfl, hb⟩; replace M := Aside.mk (M.out.next hb); replace R := Aside.mk (R.out.next hb); clear hb; (try clear z0 z1 z2 z3 z4 y0 y1 y2 y3 y4 zl x0 x1 x2 x3 x4 u0 u1 u2 u3 u4 xl); obtain ⟨z0, z1, z2, z3, z4, y0, y1, y2, y3, y4, zl, x0, x1, x2, x3, x4, u0, u1, u2, u3, u4, xl⟩ := pfacts M.out) | (go_at_call 19; (with_reducible refine (class_any _ _).mono ?_); rintro e w' ⟨rfl, rfl⟩) | (go_at_call 26; (with_reducible refine (hsh _).mono ?_); rintro e w3 ⟨rfl, hb⟩; replace M := Aside.mk (M.out.next hb); replace R := Aside.mk (R.out.next hb); clear hb; (try clear z0 z1 z2 z3 z4 y0 y1 y2 y3 y4 zl x0 x1 x2 x3 x4 u0 u1 u2 u3 u4 xl); obtain ⟨z0, z1, z2, z3, z4, y0, y1, y2, y3, y4, zl, x0, x1, x2, x3, x4, u0, u1, u2, u3, u4, xl⟩ := pfacts M.out) | (go_at_call 23; (with_reducible refine (fail_any _ _).mono ?_); rintro e w4 ⟨rfl, hb⟩; replace M := Aside.mk (M.out.next hb); replace R := Aside.mk (R.out.next hb); clear hb; (try clear z0 z1 z2 z3 z4 y0 y1 y2 y3 y4 zl x0 x1 x2 x3 x4 u0 u1 u2 u3 u4 xl); obtain ⟨z0, z1, z2, z3, z4, y0, y1, y2, y3, y4, zl, x0, x1, x2, x3, x4, u0, u1, u2, u3, u4, xl⟩ := pfacts M.out))
                      all_goals
                        refine bodyPost_ret (v := .tuple #[.agg #[.int .i64 0, .int .i64 0, .int .i64 0, .int .i64 0, .slice none 0 0], .int .i64 0, .int .i64 3]) (by simp [results, Tryd.results10, go_sem, x0, x1, x2, x3, x4]) rfl ?_
                        exact PsOut.bad (HP.out.trans (Rp.prs_bad HBad.out (by decide))) (by decide) (low5 M.out.low (Nat.le_refl _) _ _ _ _ _)
                    ·
                      have HBad : Hid (Rp.bad 0 cd s.data.toList = 0) := Lib.hid (Rp.bad_0 (by rw [HC.out]; exact HCl.out) HD.out HS0.out HV.out (by omega) (by omega))
                      have hmin : min (4 : Int) (s.size : Int) = 4 := by omega
                      have hlo : 4 ≤ s.size := by omega
                      have hlo1 : (4 : Int) ≤ (s.size : Int) := by omega
                      have HSay : Hid (s.extract 4 s.size = Rp.say s) := Lib.hid (Rp.say_4 (by omega))
                      go_wp2_with (first | (go_at_call 24; (with_reducible refine (htrim _).mono ?_); rintro e w1 ⟨rfl, hb⟩; replace M := Aside.mk (M.out.next hb); replace R := Aside.mk (R.out.next hb); clear hb; (try clear z0 z1 z2 z3 z4 y0 y1 y2 y3 y4 zl x0 x1 x2 x3 x4 u0 u1 u2 u3 u4 xl); obtain ⟨z0, z1, z2, z3, z4, y0, y1, y2, y3, y4, zl, x0, x1, x2, x3, x4, u0, u1, u2, u3, u4, xl⟩ := pfacts M.out) | (go_at_call 25; (with_reducible refine (hatoi _).mono ?_); rintro e w2 ⟨rfl, hb⟩; replace M := Aside.mk (M.out.next hb); replace R := Aside.mk (R.out.next hb); clear hb; (try clear z0 z1 z2 z3 z4 y0 y1 y2 y3 y4 zl x0 x1 x2 x3 x4 u0 u1 u2 u3 u4 xl); obtain ⟨z0, z1, z2, z3, z4, y0, y1, y2, y3, y4, zl, x0, x1, x2, x3, x4, u0, u1, u2, u3, u4, xl⟩ := pfacts M.out) | (go_at_call 19; (with_reducible refine (class_any _ _).mono ?_); rintro e w' ⟨rfl, rfl⟩) | (go_at_call 26; (with_reducible refine (hsh _).mono ?_); rintro e w3 ⟨rfl, hb⟩; replace M := Aside.mk (M.out.next hb); replace R := Aside.mk (R.out.next hb); clear hb; (try clear z0 z1 z2 z3 z4 y0 y1 y2 y3 y4 zl x0 x1 x2 x3 x4 u0 u1 u2 u3 u4 xl); obtain ⟨z0, z1, z2, z3, z4, y0, y1, y2, y3, y4, zl, x0, x1, x2, x3, x4, u0, u1, u2, u3, u4, xl⟩ := pfacts M.out) | (go_at_call 23; (with_reducible refine (fail_any _ _).mono ?_); rintro e w4 ⟨rfl, hb⟩; replace M := Aside.mk (M.out.next hb); replace R := Aside.mk (R.out.next hb); clear hb; (try clear z0 z1 z2 z3 z4 y0 y1 y2 y3 y4 zl x0 x1 x2 x3 x4 u0 u1 u2 u3 u4 xl); obtain ⟨z0, z1, z2, z3, z4, y0, y1, y2, y3, y4, zl, x0, x1, x2, x3, x4, u0, u1, u2, u3, u4, xl⟩ := pfacts M.out))
                      have hne1 := Row.ne R.out (M.out.own _ (List.mem_cons_self ..)).2 (show 25 ≠ 9 by decide)
                      replace R := Aside.mk ((R.out.setOther (a := ⟨w.heap.size + 1, 0, none⟩) hne1 (.int .i64 n)))
                      have M5 := Aside.mk (M.out.set (by simp) 0 (.int .i64 n))
                      clear hne1 M
                      have M : Aside (Mine w [(w.heap.size + 1, #[.int .i64 n, .int .i64 0, .int .i64 0, .int .i64 0, v], 25), (w.heap.size, #[.int .i64 0, .int .i64 0, .int .i64 0, .int .i64 0, .slice none 0 0], 25)] (((w3.setCell ⟨w.heap.size + 1, 0, none⟩ (.int .i64 n))))) := ⟨by simpa using M5.out⟩
                      clear M5
                      refine wp_region_held_drew (S := fun _ => True) (by kernel_rfl) trivial (fun hS_ => ?_)
                      refine wpAnyH_take (i := 0) (oi := ⟨some 94, _, _, _, _, _⟩) (v := ?_) rfl (by kernel_rfl) (by kernel_rfl) (by kernel_rfl) (fun _ _ _ h => h) (Or.inl ⟨by rfl, ?_⟩) hS_ ?_
                      rotate_left
                      · (intro w_ hSw_; first | (go_simp; done) | (go_simp; with_reducible rfl))
                      try simp only [Act.put, List.setIfInBounds_toArray, List.set_cons_zero, List.set_cons_succ]
                      refine wpAnyH_take (i := 2) (oi := ⟨some 96, _, _, _, _, _⟩) (v := ?_) rfl (by kernel_rfl) (by kernel_rfl) (by kernel_rfl) (fun _ _ _ h => h) (Or.inl ⟨by rfl, ?_⟩) hS_ ?_
                      rotate_left
                      · (intro w_ hSw_; first | (go_simp; done) | (go_simp; with_reducible rfl))
                      try simp only [Act.put, List.setIfInBounds_toArray, List.set_cons_zero, List.set_cons_succ]
                      refine wpAnyH_take (i := 3) (oi := ⟨some 97, _, _, _, _, _⟩) (v := ?_) rfl (by kernel_rfl) (by kernel_rfl) (by kernel_rfl) (fun _ _ _ h => h) (Or.inl ⟨by rfl, ?_⟩) hS_ ?_
                      rotate_left
                      · (intro w_ hSw_; first | (go_simp; done) | (go_simp; with_reducible rfl))
                      try simp only [Act.put, List.setIfInBounds_toArray, List.set_cons_zero, List.set_cons_succ]
                      refine wpAnyH_take (i := 4) (oi := ⟨some 98, _, _, _, _, _⟩) (v := ?_) rfl (by kernel_rfl) (by kernel_rfl) (by kernel_rfl) (fun _ _ _ h => h) (Or.inl ⟨by rfl, ?_⟩) hS_ ?_
                      rotate_left
                      · (intro w_ hSw_; first | (go_simp; done) | (go_simp; with_reducible rfl))
                      try simp only [Act.put, List.setIfInBounds_toArray, List.set_cons_zero, List.set_cons_succ]
                      refine wpAnyH_take (i := 5) (oi := ⟨some 99, _, _, _, _, _⟩) (v := ?_) rfl (by kernel_rfl) (by kernel_rfl) (by kernel_rfl) (fun _ _ _ h => h) (Or.inl ⟨by rfl, ?_⟩) hS_ ?_
                      rotate_left
                      · (intro w_ hSw_; first | (go_simp; done) | (go_simp; with_reducible rfl))
                      try simp only [Act.put, List.setIfInBounds_toArray, List.set_cons_zero, List.set_cons_succ]
                      refine wpAnyH_take (i := 6) (oi := ⟨some 100, _, _, _, _, _⟩) (v := ?_) rfl (by kernel_rfl) (by kernel_rfl) (by kernel_rfl) (fun _ _ _ h => h) (Or.inl ⟨by rfl, ?_⟩) hS_ ?_
                      rotate_left
                      · (intro w_ hSw_; first | (go_simp; done) | (go_simp; with_reducible rfl))
                      try simp only [Act.put, List.setIfInBounds_toArray, List.set_cons_zero, List.set_cons_succ]
                      refine wpAnyH_ready (rs := [1, 7]) (by kernel_rfl) (by simp) ?_
                      refine AllReadyH.cons rfl (fun K hK => ?_) (AllReadyH.cons rfl (fun K hK => ?_) AllReadyH.nil)
                      have c4_ := M.out.drew1.at 4 _ rfl
                      go_simp
                      clear c4_
                      refine hK.out _ _ trivial (fun hS_ => ?_)
                      clear hK
                      refine wpAnyH_ready (rs := [7]) (by kernel_rfl) (by simp) ?_
                      refine AllReadyH.cons rfl (fun K hK => ?_) AllReadyH.nil
                      go_simp
                      refine hK.out _ _ trivial (fun hS_ => ?_)
                      clear hK
                      refine wpAnyH_ready (rs := [8]) (by kernel_rfl) (by simp) ?_
                      refine AllReadyH.cons rfl (fun K hK => ?_) AllReadyH.nil
                      (refine app_step_n rfl _ _ rfl w.heap.size _ _ 0 (by simp <;> omega) (by rfl) (R.out.alloc _).drew1 _ (by rfl) (s.extract 4 s.size) (by have h_ : ((w3.setCell ⟨w.heap.size + 1, 0, none⟩ (.int .i64 n)).alloc (.cells #[.string (s.extract 4 s.size)] 9)).drew.heap[(w3.setCell ⟨w.heap.size + 1, 0, none⟩ (.int .i64 n)).heap.size]? = _ := heap_alloc_new _ _; simpa using h_) (by omega) ((M.out.allocO _).drew1.low.size) ?_; intro g cap w4 hrow4 hgrow4 _ _; have M6 := Aside.mk ((M.out.allocO _).drew1.app (R.out.alloc _).drew1 hgrow4 (by simp)); have R6 := Aside.mk hrow4; have hne2 := Row.ne R6.out (M6.out.own _ (List.mem_cons_self ..)).2 (show 25 ≠ 9 by decide); have R7 := Aside.mk (R6.out.setOther (a := ⟨w.heap.size + 1, 4, none⟩) hne2 (.slice (some ⟨g, 0, none⟩) (0 + 1) cap)); have M7 := Aside.mk (M6.out.set (by simp) 4 (.slice (some ⟨g, 0, none⟩) (0 + 1) cap)); clear R hne2 hrow4 hgrow4 M R6; (try clear z0 z1 z2 z3 z4 y0 y1 y2 y3 y4 zl x0 x1 x2 x3 x4 u0 u1 u2 u3 u4 xl); have M := M6; clear M6; obtain ⟨z0, z1, z2, z3, z4, y0, y1, y2, y3, y4, zl, x0, x1, x2, x3, x4, u0, u1, u2, u3, u4, xl⟩ := pfacts M.out)
                      refine hK.out _ _ trivial (fun hS_ => ?_)
                      clear hK
                      refine wpAnyH_take (i := 9) (oi := ⟨some 103, _, _, _, _, _⟩) (v := ?_) rfl (by kernel_rfl) (by kernel_rfl) (by kernel_rfl) (fun _ _ _ h => h) (Or.inl ⟨by rfl, ?_⟩) hS_ ?_
                      rotate_left
                      · (intro w_ hSw_; first | (go_simp; done) | (go_simp; with_reducible rfl))
                      try simp only [Act.put, List.setIfInBounds_toArray, List.set_cons_zero, List.set_cons_succ]
                      refine wpAnyH_ready (rs := [10]) (by kernel_rfl) (by simp) ?_
                      refine AllReadyH.cons rfl (fun K hK => ?_) AllReadyH.nil
                      go_simp
                      refine hK.out _ _ trivial (fun hS_ => ?_)
                      clear hK
                      refine wpAnyH_done (by kernel_rfl) ?_ _
                      rotate_left
                      go_simp
                      refine hK.out _ _ trivial (fun hS_ => ?_)
                      clear hK
                      refine wpAnyH_ready (rs := [1]) (by kernel_rfl) (by simp) ?_
                      refine AllReadyH.cons rfl (fun K hK => ?_) AllReadyH.nil
                      have c4_ := (M.out.allocO (.cells #[.string (s.extract 4 s.size)] 9)).drew1.at 4 _ rfl
                      go_simp
                      clear c4_
                      refine hK.out _ _ trivial (fun hS_ => ?_)
                      clear hK
                      refine wpAnyH_ready (rs := [8]) (by kernel_rfl) (by simp) ?_
                      refine AllReadyH.cons rfl (fun K hK => ?_) AllReadyH.nil
                      (refine app_step_n rfl _ _ rfl w.heap.size _ _ 0 (by simp <;> omega) (by rfl) (R.out.alloc _).drew1 _ (by rfl) (s.extract 4 s.size) (by have h_ : ((w3.setCell ⟨w.heap.size + 1, 0, none⟩ (.int .i64 n)).alloc (.cells #[.string (s.extract 4 s.size)] 9)).drew.heap[(w3.setCell ⟨w.heap.size + 1, 0, none⟩ (.int .i64 n)).heap.size]? = _ := heap_alloc_new _ _; simpa using h_) (by omega) ((M.out.allocO _).drew1.low.size) ?_; intro g cap w4 hrow4 hgrow4 _ _; have M6 := Aside.mk ((M.out.allocO _).drew1.app (R.out.alloc _).drew1 hgrow4 (by simp)); have R6 := Aside.mk hrow4; have hne2 := Row.ne R6.out (M6.out.own _ (List.mem_cons_self ..)).2 (show 25 ≠ 9 by decide); have R7 := Aside.mk (R6.out.setOther (a := ⟨w.heap.size + 1, 4, none⟩) hne2 (.slice (some ⟨g, 0, none⟩) (0 + 1) cap)); have M7 := Aside.mk (M6.out.set (by simp) 4 (.slice (some ⟨g, 0, none⟩) (0 + 1) cap)); clear R hne2 hrow4 hgrow4 M R6; (try clear z0 z1 z2 z3 z4 y0 y1 y2 y3 y4 zl x0 x1 x2 x3 x4 u0 u1 u2 u3 u4 xl); have M := M6; clear M6; obtain ⟨z0, z1, z2, z3, z4, y0, y1, y2, y3, y4, zl, x0, x1, x2, x3, x4, u0, u1, u2, u3, u4, xl⟩ := pfacts M.out)
                      refine hK.out _ _ trivial (fun hS_ => ?_)
                      clear hK
                      refine wpAnyH_take (i := 9) (oi := ⟨some 103, _, _, _, _, _⟩) (v := ?_) rfl (by kernel_rfl) (by kernel_rfl) (by kernel_rfl) (fun _ _ _ h => h) (Or.inl ⟨by rfl, ?_⟩) hS_ ?_
                      rotate_left
                      · (intro w_ hSw_; first | (go_simp; done) | (go_simp; with_reducible rfl))
                      try simp only [Act.put, List.setIfInBounds_toArray, List.set_cons_zero, List.set_cons_succ]
                      refine wpAnyH_ready (rs := [10]) (by kernel_rfl) (by simp) ?_
                      refine AllReadyH.cons rfl (fun K hK => ?_) AllReadyH.nil
                      go_simp
                      refine hK.out _ _ trivial (fun hS_ => ?_)
                      clear hK
                      refine wpAnyH_done (by kernel_rfl) ?_ _
                      rotate_left
                      all_goals
                        clear M; (try clear z0 z1 z2 z3 z4 y0 y1 y2 y3 y4 zl x0 x1 x2 x3 x4 u0 u1 u2 u3 u4 xl)
                        have M : Aside (Mine w [(w.heap.size + 1, #[.int .i64 n, .int .i64 0, .int .i64 0, .int .i64 0, .slice (some ⟨g, 0, none⟩) (0 + 1) cap], 25), (w.heap.size, #[.int .i64 0, .int .i64 0, .int .i64 0, .int .i64 0, .slice none 0 0], 25)] (w4.setCell ⟨w.heap.size + 1, 4, none⟩ (.slice (some ⟨g, 0, none⟩) (0 + 1) cap))) := ⟨by simpa using M7.out⟩
                        have R : Aside (Row (w4.setCell ⟨w.heap.size + 1, 4, none⟩ (.slice (some ⟨g, 0, none⟩) (0 + 1) cap)) w.heap.size (.slice (some ⟨g, 0, none⟩) (0 + 1) cap) ((l.take (0 + 1)).map Rp.say)) := ⟨by rw [HT.out]; simpa [HSay.out] using R7.out⟩
                        clear M7 R7
                        have HB7 : Aside (Blk (w4.setCell ⟨w.heap.size + 1, 4, none⟩ (.slice (some ⟨g, 0, none⟩) (0 + 1) cap)) (w.heap.size + 1) #[.int .i64 n, .int .i64 0, .int .i64 0, .int .i64 0, .slice (some ⟨g, 0, none⟩) ((l.take (0 + 1)).map Rp.say).length cap] 25) := ⟨by have := (M.out.own _ (List.mem_cons_self ..)).2; rw [List.length_map, List.length_take, Nat.min_eq_left (by omega)]; exact this⟩
                        have HS7 := Aside.mk R.out.strs
                        have hq7 : ∀ q ∈ (l.take (0 + 1)).map Rp.say, q.size < 4294967281 := by
                          intro q hq; obtain ⟨p, hp, rfl⟩ := List.mem_map.1 hq; have := Hs.out p (List.mem_of_mem_take hp); have := Rp.say_size p; omega
                        have HQ7 := Aside.mk hq7; clear hq7
                        have hst := fun W hW hB hS => strip_any (w.heap.size + 1) n ((l.take (0 + 1)).map Rp.say) (some ⟨g, 0, none⟩) cap W hW hB hS HQ7.out (by simp; omega) (by simp; omega)
                        have zl := Mine.lt M.out
                        have hgne := R.out.ne (M.out.own _ (List.mem_cons_self ..)).2 (show 25 ≠ 9 by decide)
                        go_wp2_with (go_at_call 27; (with_reducible refine (hst _ (hE.next M.out.low) HB7.out HS7.out).mono ?_); rintro e w8 ⟨⟨_, rfl⟩, h8⟩; obtain ⟨f1, f2, f3, A8, c8, xs8, hb8, hs8, hbody⟩ := strip_out h8 HS7.out zl (by intro q hq hq2; injection hq with hq; subst hq; simp only at hq2; subst hq2; exact hgne rfl); have H8 := Aside.mk hs8; have HBo := Lib.hid hbody; clear hs8 hbody; have z0 := Blk.cell hb8 0 _ rfl; have z1 := Blk.cell hb8 1 _ rfl; have z2 := Blk.cell hb8 2 _ rfl; have z3 := Blk.cell hb8 3 _ rfl; have z4 := Blk.cell hb8 4 _ rfl; have hx8 := Blk.chg (M.out.own _ (List.mem_cons_of_mem _ (List.mem_cons_self ..))).2 h8.1 (by simp); have low8 := Aside.mk (Chg.below M.out.low h8.1 (by intro q hq; omega) (Nat.le_of_lt (Nat.lt_of_le_of_lt (by omega) zl))); clear h8 hb8; have x0 := Blk.cell hx8 0 _ rfl; have x1 := Blk.cell hx8 1 _ rfl; have x2 := Blk.cell hx8 2 _ rfl; have x3 := Blk.cell hx8 3 _ rfl; have x4 := Blk.cell hx8 4 _ rfl; have u0 := Blk.free hx8 0; have u1 := Blk.free hx8 1; have u2 := Blk.free hx8 2; have u3 := Blk.free hx8 3; have u4 := Blk.free hx8 4; have HX8 := Aside.mk hx8; clear hx8)
                        refine bodyPost_ret (v := .tuple #[.agg #[.int .i64 n, .int .i64 f1, .int .i64 f2, .int .i64 f3, .slice A8 ((l.take (0 + 1)).map Rp.say).length c8], .int .i64 ((0 : Int) + 1), .int .i64 0]) (by simp [results, Tryd.results10, go_sem, x0, x1, x2, x3, x4]) rfl ?_
                        rw [List.length_map, List.length_take, Nat.min_eq_left (by omega)]
                        exact PsOut.good (by rw [HP.out, Rp.prs_last HBad.out HL.out, HC.out]) (by simp) HBo.out (strs_low5 H8.out HX8.out _ _ _ _ _) (low5 low8.out (Nat.le_refl _) _ _ _ _ _)
                ·
                  have hkp : (0 : Int) < (k : Int) := by omega
                  by_cases hcd : n = cd
                  rotate_left
                  ·
                    have hne : (n == cd) = false := by simpa using hcd
                    have dne : (n != cd) = true := by simp only [bne, hne]; rfl
                    have nne : decide (n = cd) = false := decide_eq_false hcd
                    have nn2 : ¬ n = cd := hcd
                    have HBad : Hid (Rp.bad k cd s.data.toList = 2) := Lib.hid (Rp.bad_2 (.inr (.inl ⟨hk0, by rw [HC.out]; exact hcd⟩)))
                    clear hcd
                    go_wp2_with (first | (go_at_call 24; (with_reducible refine (htrim _).mono ?_); rintro e w1 ⟨rfl, hb⟩; replace M := Aside.mk (M.out.next hb); replace R := Aside.mk (R.out.next hb); clear hb; (try clear z0 z1 z2 z3 z4 y0 y1 y2 y3 y4 zl x0 x1 x2 x3 x4 u0 u1 u2 u3 u4 xl); obtain ⟨z0, z1, z2, z3, z4, y0, y1, y2, y3, y4, zl, x0, x1, x2, x3, x4, u0, u1, u2, u3, u4, xl⟩ := pfacts M.out) | (go_at_call 25; (with_reducible refine (hatoi _).mono ?_); rintro e w2 ⟨rfl, hb⟩; replace M := Aside.mk (M.out.next hb); replace R := Aside.mk (R.out.next hb); clear hb; (try clear z0 z1 z2 z3 z4 y0 y1 y2 y3 y4 zl x0 x1 x2 x3 x4 u0 u1 u2 u3 u4 xl); obtain ⟨z0, z1, z2, z3, z4, y0, y1, y2, y3, y4, zl, x0, x1, x2, x3, x4, u0, u1, u2, u3, u4, xl⟩ := pfacts M.out) | (go_at_call 19; (with_reducible refine (class_any _ _).mono ?_); rintro e w' ⟨rfl, rfl⟩) | (go_at_call 26; (with_reducible refine (hsh _).mono ?_); rintro e w3 ⟨rfl, hb⟩; replace M := Aside.mk (M.out.next hb); replace R := Aside.mk (R.out.next hb); clear hb; (try clear z0 z1 z2 z3 z4 y0 y1 y2 y3 y4 zl x0 x1 x2 x3 x4 u0 u1 u2 u3 u4 xl); obtain ⟨z0, z1, z2, z3, z4, y0, y1, y2, y3, y4, zl, x0, x1, x2, x3, x4, u0, u1, u2, u3, u4, xl⟩ := pfacts M.out) | (go_at_call 23; (with_reducible refine (fail_any _ _).mono ?_); rintro e w4 ⟨rfl, hb⟩; replace M := Aside.mk (M.out.next hb); replace R := Aside.mk (R.out.next hb); clear hb; (try clear z0 z1 z2 z3 z4 y0 y1 y2 y3 y4 zl x0 x1 x2 x3 x4 u0 u1 u2 u3 u4 xl); obtain ⟨z0, z1, z2, z3, z4, y0, y1, y2, y3, y4, zl, x0, x1, x2, x3, x4, u0, u1, u2, u3, u4, xl⟩ := pfacts M.out))
                    all_goals
                      refine bodyPost_ret (v := .tuple #[.agg #[.int .i64 0, .int .i64 0, .int .i64 0, .int .i64 0, .slice none 0 0], .int .i64 0, .int .i64 2]) (by simp [results, Tryd.results10, go_sem, x0, x1, x2, x3, x4]) rfl ?_
                      exact PsOut.bad (HP.out.trans (Rp.prs_bad HBad.out (by decide))) (by decide) (low5 M.out.low (Nat.le_refl _) _ _ _ _ _)
                  subst hcd
                  have HD : Hid (0 < k → Rp.code s.data.toList = n) := Lib.hid (fun q => HC.out)
                  cases hv1 : Rp.shown s.data.toList with
                  | false =>
                    rw [hv1] at hsh
                    have HBad : Hid (Rp.bad k n s.data.toList = 2) := Lib.hid (Rp.bad_2 (.inr (.inr (.inr hv1))))
                    clear hv1
                    go_wp2_with (first | (go_at_call 24; (with_reducible refine (htrim _).mono ?_); rintro e w1 ⟨rfl, hb⟩; replace M := Aside.mk (M.out.next hb); replace R := Aside.mk (R.out.next hb); clear hb; (try clear z0 z1 z2 z3 z4 y0 y1 y2 y3 y4 zl x0 x1 x2 x3 x4 u0 u1 u2 u3 u4 xl); obtain ⟨z0, z1, z2, z3, z4, y0, y1, y2, y3, y4, zl, x0, x1, x2, x3, x4, u0, u1, u2, u3, u4, xl⟩ := pfacts M.out) | (go_at_call 25; (with_reducible refine (hatoi _).mono ?_); rintro e w2 ⟨rfl, hb⟩; replace M := Aside.mk (M.out.next hb); replace R := Aside.mk (R.out.next hb); clear hb; (try clear z0 z1 z2 z3 z4 y0 y1 y2 y3 y4 zl x0 x1 x2 x3 x4 u0 u1 u2 u3 u4 xl); obtain ⟨z0, z1, z2, z3, z4, y0, y1, y2, y3, y4, zl, x0, x1, x2, x3, x4, u0, u1, u2, u3, u4, xl⟩ := pfacts M.out) | (go_at_call 19; (with_reducible refine (class_any _ _).mono ?_); rintro e w' ⟨rfl, rfl⟩) | (go_at_call 26; (with_reducible refine (hsh _).mono ?_); rintro e w3 ⟨rfl, hb⟩; replace M := Aside.mk (M.out.next hb); replace R := Aside.mk (R.out.next hb); clear hb; (try clear z0 z1 z2 z3 z4 y0 y1 y2 y3 y4 zl x0 x1 x2 x3 x4 u0 u1 u2 u3 u4 xl); obtain ⟨z0, z1, z2, z3, z4, y0, y1, y2, y3, y4, zl, x0, x1, x2, x3, x4, u0, u1, u2, u3, u4, xl⟩ := pfacts M.out) | (go_at_call 23; (with_reducible refine (fail_any _ _).mono ?_); rintro e w4 ⟨rfl, hb⟩; replace M := Aside.mk (M.out.next hb); replace R := Aside.mk (R.out.next hb); clear hb; (try clear z0 z1 z2 z3 z4 y0 y1 y2 y3 y4 zl x0 x1 x2 x3 x4 u0 u1 u2 u3 u4 xl); obtain ⟨z0, z1, z2, z3, z4, y0, y1, y2, y3, y4, zl, x0, x1, x2, x3, x4, u0, u1, u2, u3, u4, xl⟩ := pfacts M.out))
                    all_goals
                      refine bodyPost_ret (v := .tuple #[.agg #[.int .i64 0, .int .i64 0, .int .i64 0, .int .i64 0, .slice none 0 0], .int .i64 0, .int .i64 2]) (by simp [results, Tryd.results10, go_sem, x0, x1, x2, x3, x4]) rfl ?_
                      exact PsOut.bad (HP.out.trans (Rp.prs_bad HBad.out (by decide))) (by decide) (low5 M.out.low (Nat.le_refl _) _ _ _ _ _)
                  | true =>
                    rw [hv1] at hsh
                    have HV := Lib.hid hv1
                    clear hv1
                    by_cases hlong : (510 : Int) < s.size
                    ·
                      have HBad : Hid (Rp.bad k n s.data.toList = 3) := Lib.hid (Rp.bad_3 (by rw [HC.out]; exact HCl.out) HD.out HS0.out HV.out (by omega))
                      go_wp2_with (first | (go_at_call 24; (with_reducible refine (htrim _).mono ?_); rintro e w1 ⟨rfl, hb⟩; replace M := Aside.mk (M.out.next hb); replace R := Aside.mk (R.out.next hb); clear hb; (try clear z0 z1 z2 z3 z4 y0 y1 y2 y3 y4 zl x0 x1 x2 x3 x4 u0 u1 u2 u3 u4 xl); obtain ⟨z0, z1, z2, z3, z4, y0, y1, y2, y3, y4, zl, x0, x1, x2, x3, x4, u0, u1, u2, u3, u4, xl⟩ := pfacts M.out) | (go_at_call 25; (with_reducible refine (hatoi _).mono ?_); rintro e w2 ⟨rfl, hb⟩; replace M := Aside.mk (M.out.next hb); replace R := Aside.mk (R.out.next hb); clear hb; (try clear z0 z1 z2 z3 z4 y0 y1 y2 y3 y4 zl x0 x1 x2 x3 x4 u0 u1 u2 u3 u4 xl); obtain ⟨z0, z1, z2, z3, z4, y0, y1, y2, y3, y4, zl, x0, x1, x2, x3, x4, u0, u1, u2, u3, u4, xl⟩ := pfacts M.out) | (go_at_call 19; (with_reducible refine (class_any _ _).mono ?_); rintro e w' ⟨rfl, rfl⟩) | (go_at_call 26; (with_reducible refine (hsh _).mono ?_); rintro e w3 ⟨rfl, hb⟩; replace M := Aside.mk (M.out.next hb); replace R := Aside.mk (R.out.next hb); clear hb; (try clear z0 z1 z2 z3 z4 y0 y1 y2 y3 y4 zl x0 x1 x2 x3 x4 u0 u1 u2 u3 u4 xl); obtain ⟨z0, z1, z2, z3, z4, y0, y1, y2, y3, y4, zl, x0, x1, x2, x3, x4, u0, u1, u2, u3, u4, xl⟩ := pfacts M.out) | (go_at_call 23; (with_reducible refine (fail_any _ _).mono ?_); rintro e w4 ⟨rfl, hb⟩; replace M := Aside.mk (M.out.next hb); replace R := Aside.mk (R.out.next hb); clear hb; (try clear z0 z1 z2 z3 z4 y0 y1 y2 y3 y4 zl x0 x1 x2 x3 x4 u0 u1 u2 u3 u4 xl); obtain ⟨z0, z1, z2, z3, z4, y0, y1, y2, y3, y4, zl, x0, x1, x2, x3, x4, u0, u1, u2, u3, u4, xl⟩ := pfacts M.out))
                      all_goals
                        refine bodyPost_ret (v := .tuple #[.agg #[.int .i64 0, .int .i64 0, .int .i64 0, .int .i64 0, .slice none 0 0], .int .i64 0, .int .i64 3]) (by simp [results, Tryd.results10, go_sem, x0, x1, x2, x3, x4]) rfl ?_
                        exact PsOut.bad (HP.out.trans (Rp.prs_bad HBad.out (by decide))) (by decide) (low5 M.out.low (Nat.le_refl _) _ _ _ _ _)
                    ·
                      by_cases h32 : (32 : Int) ≤ (k : Int)
                      ·
                        have HBad : Hid (Rp.bad k n s.data.toList = 3) := Lib.hid (Rp.bad_3 (by rw [HC.out]; exact HCl.out) HD.out HS0.out HV.out (by omega))
                        go_wp2_with (first | (go_at_call 24; (with_reducible refine (htrim _).mono ?_); rintro e w1 ⟨rfl, hb⟩; replace M := Aside.mk (M.out.next hb); replace R := Aside.mk (R.out.next hb); clear hb; (try clear z0 z1 z2 z3 z4 y0 y1 y2 y3 y4 zl x0 x1 x2 x3 x4 u0 u1 u2 u3 u4 xl); obtain ⟨z0, z1, z2, z3, z4, y0, y1, y2, y3, y4, zl, x0, x1, x2, x3, x4, u0, u1, u2, u3, u4, xl⟩ := pfacts M.out) | (go_at_call 25; (with_reducible refine (hatoi _).mono ?_); rintro e w2 ⟨rfl, hb⟩; replace M := Aside.mk (M.out.next hb); replace R := Aside.mk (R.out.next hb); clear hb; (try clear z0 z1 z2 z3 z4 y0 y1 y2 y3 y4 zl x0 x1 x2 x3 x4 u0 u1 u2 u3 u4 xl); obtain ⟨z0, z1, z2, z3, z4, y0, y1, y2, y3, y4, zl, x0, x1, x2, x3, x4, u0, u1, u2, u3, u4, xl⟩ := pfacts M.out) | (go_at_call 19; (with_reducible refine (class_any _ _).mono ?_); rintro e w' ⟨rfl, rfl⟩) | (go_at_call 26; (with_reducible refine (hsh _).mono ?_); rintro e w3 ⟨rfl, hb⟩; replace M := Aside.mk (M.out.next hb); replace R := Aside.mk (R.out.next hb); clear hb; (try clear z0 z1 z2 z3 z4 y0 y1 y2 y3 y4 zl x0 x1 x2 x3 x4 u0 u1 u2 u3 u4 xl); obtain ⟨z0, z1, z2, z3, z4, y0, y1, y2, y3, y4, zl, x0, x1, x2, x3, x4, u0, u1, u2, u3, u4, xl⟩ := pfacts M.out) | (go_at_call 23; (with_reducible refine (fail_any _ _).mono ?_); rintro e w4 ⟨rfl, hb⟩; replace M := Aside.mk (M.out.next hb); replace R := Aside.mk (R.out.next hb); clear hb; (try clear z0 z1 z2 z3 z4 y0 y1 y2 y3 y4 zl x0 x1 x2 x3 x4 u0 u1 u2 u3 u4 xl); obtain ⟨z0, z1, z2, z3, z4, y0, y1, y2, y3, y4, zl, x0, x1, x2, x3, x4, u0, u1, u2, u3, u4, xl⟩ := pfacts M.out))
                        all_goals
                          refine bodyPost_ret (v := .tuple #[.agg #[.int .i64 0, .int .i64 0, .int .i64 0, .int .i64 0, .slice none 0 0], .int .i64 0, .int .i64 3]) (by simp [results, Tryd.results10, go_sem, x0, x1, x2, x3, x4]) rfl ?_
                          exact PsOut.bad (HP.out.trans (Rp.prs_bad HBad.out (by decide))) (by decide) (low5 M.out.low (Nat.le_refl _) _ _ _ _ _)
                      ·
                        have HBad : Hid (Rp.bad k n s.data.toList = 0) := Lib.hid (Rp.bad_0 (by rw [HC.out]; exact HCl.out) HD.out HS0.out HV.out (by omega) (by omega))
                        have hmin : min (4 : Int) (s.size : Int) = 4 := by omega
                        have hlo : 4 ≤ s.size := by omega
                        have hlo1 : (4 : Int) ≤ (s.size : Int) := by omega
                        have HSay : Hid (s.extract 4 s.size = Rp.say s) := Lib.hid (Rp.say_4 (by omega))
                        go_wp2_with (first | (go_at_call 24; (with_reducible refine (htrim _).mono ?_); rintro e w1 ⟨rfl, hb⟩; replace M := Aside.mk (M.out.next hb); replace R := Aside.mk (R.out.next hb); clear hb; (try clear z0 z1 z2 z3 z4 y0 y1 y2 y3 y4 zl x0 x1 x2 x3 x4 u0 u1 u2 u3 u4 xl); obtain ⟨z0, z1, z2, z3, z4, y0, y1, y2, y3, y4, zl, x0, x1, x2, x3, x4, u0, u1, u2, u3, u4, xl⟩ := pfacts M.out) | (go_at_call 25; (with_reducible refine (hatoi _).mono ?_); rintro e w2 ⟨rfl, hb⟩; replace M := Aside.mk (M.out.next hb); replace R := Aside.mk (R.out.next hb); clear hb; (try clear z0 z1 z2 z3 z4 y0 y1 y2 y3 y4 zl x0 x1 x2 x3 x4 u0 u1 u2 u3 u4 xl); obtain ⟨z0, z1, z2, z3, z4, y0, y1, y2, y3, y4, zl, x0, x1, x2, x3, x4, u0, u1, u2, u3, u4, xl⟩ := pfacts M.out) | (go_at_call 19; (with_reducible refine (class_any _ _).mono ?_); rintro e w' ⟨rfl, rfl⟩) | (go_at_call 26; (with_reducible refine (hsh _).mono ?_); rintro e w3 ⟨rfl, hb⟩; replace M := Aside.mk (M.out.next hb); replace R := Aside.mk (R.out.next hb); clear hb; (try clear z0 z1 z2 z3 z4 y0 y1 y2 y3 y4 zl x0 x1 x2 x3 x4 u0 u1 u2 u3 u4 xl); obtain ⟨z0, z1, z2, z3, z4, y0, y1, y2, y3, y4, zl, x0, x1, x2, x3, x4, u0, u1, u2, u3, u4, xl⟩ := pfacts M.out) | (go_at_call 23; (with_reducible refine (fail_any _ _).mono ?_); rintro e w4 ⟨rfl, hb⟩; replace M := Aside.mk (M.out.next hb); replace R := Aside.mk (R.out.next hb); clear hb; (try clear z0 z1 z2 z3 z4 y0 y1 y2 y3 y4 zl x0 x1 x2 x3 x4 u0 u1 u2 u3 u4 xl); obtain ⟨z0, z1, z2, z3, z4, y0, y1, y2, y3, y4, zl, x0, x1, x2, x3, x4, u0, u1, u2, u3, u4, xl⟩ := pfacts M.out))
                        have hne1 := Row.ne R.out (M.out.own _ (List.mem_cons_self ..)).2 (show 25 ≠ 9 by decide)
                        replace R := Aside.mk ((R.out.setOther (a := ⟨w.heap.size + 1, 0, none⟩) hne1 (.int .i64 n)))
                        have M5 := Aside.mk (M.out.set (by simp) 0 (.int .i64 n))
                        clear hne1 M
                        have M : Aside (Mine w [(w.heap.size + 1, #[.int .i64 n, .int .i64 0, .int .i64 0, .int .i64 0, v], 25), (w.heap.size, #[.int .i64 0, .int .i64 0, .int .i64 0, .int .i64 0, .slice none 0 0], 25)] (((w3.setCell ⟨w.heap.size + 1, 0, none⟩ (.int .i64 n))))) := ⟨by simpa using M5.out⟩
                        clear M5
                        refine wp_region_held_drew (S := fun _ => True) (by kernel_rfl) trivial (fun hS_ => ?_)
                        refine wpAnyH_take (i := 0) (oi := ⟨some 94, _, _, _, _, _⟩) (v := ?_) rfl (by kernel_rfl) (by kernel_rfl) (by kernel_rfl) (fun _ _ _ h => h) (Or.inl ⟨by rfl, ?_⟩) hS_ ?_
                        rotate_left
                        · (intro w_ hSw_; first | (go_simp; done) | (go_simp; with_reducible rfl))
                        try simp only [Act.put, List.setIfInBounds_toArray, List.set_cons_zero, List.set_cons_succ]
                        refine wpAnyH_take (i := 2) (oi := ⟨some 96, _, _, _, _, _⟩) (v := ?_) rfl (by kernel_rfl) (by kernel_rfl) (by kernel_rfl) (fun _ _ _ h => h) (Or.inl ⟨by rfl, ?_⟩) hS_ ?_
                        rotate_left
                        · (intro w_ hSw_; first | (go_simp; done) | (go_simp; with_reducible rfl))
                        try simp only [Act.put, List.setIfInBounds_toArray, List.set_cons_zero, List.set_cons_succ]
                        refine wpAnyH_take (i := 3) (oi := ⟨some 97, _, _, _, _, _⟩) (v := ?_) rfl (by kernel_rfl) (by kernel_rfl) (by kernel_rfl) (fun _ _ _ h => h) (Or.inl ⟨by rfl, ?_⟩) hS_ ?_
                        rotate_left
                        · (intro w_ hSw_; first | (go_simp; done) | (go_simp; with_reducible rfl))
                        try simp only [Act.put, List.setIfInBounds_toArray, List.set_cons_zero, List.set_cons_succ]
                        refine wpAnyH_take (i := 4) (oi := ⟨some 98, _, _, _, _, _⟩) (v := ?_) rfl (by kernel_rfl) (by kernel_rfl) (by kernel_rfl) (fun _ _ _ h => h) (Or.inl ⟨by rfl, ?_⟩) hS_ ?_
                        rotate_left
                        · (intro w_ hSw_; first | (go_simp; done) | (go_simp; with_reducible rfl))
                        try simp only [Act.put, List.setIfInBounds_toArray, List.set_cons_zero, List.set_cons_succ]
                        refine wpAnyH_take (i := 5) (oi := ⟨some 99, _, _, _, _, _⟩) (v := ?_) rfl (by kernel_rfl) (by kernel_rfl) (by kernel_rfl) (fun _ _ _ h => h) (Or.inl ⟨by rfl, ?_⟩) hS_ ?_
                        rotate_left
                        · (intro w_ hSw_; first | (go_simp; done) | (go_simp; with_reducible rfl))
                        try simp only [Act.put, List.setIfInBounds_toArray, List.set_cons_zero, List.set_cons_succ]
                        refine wpAnyH_take (i := 6) (oi := ⟨some 100, _, _, _, _, _⟩) (v := ?_) rfl (by kernel_rfl) (by kernel_rfl) (by kernel_rfl) (fun _ _ _ h => h) (Or.inl ⟨by rfl, ?_⟩) hS_ ?_
                        rotate_left
                        · (intro w_ hSw_; first | (go_simp; done) | (go_simp; with_reducible rfl))
                        try simp only [Act.put, List.setIfInBounds_toArray, List.set_cons_zero, List.set_cons_succ]
                        refine wpAnyH_ready (rs := [1, 7]) (by kernel_rfl) (by simp) ?_
                        refine AllReadyH.cons rfl (fun K hK => ?_) (AllReadyH.cons rfl (fun K hK => ?_) AllReadyH.nil)
                        have c4_ := M.out.drew1.at 4 _ rfl
                        go_simp
                        clear c4_
                        refine hK.out _ _ trivial (fun hS_ => ?_)
                        clear hK
                        refine wpAnyH_ready (rs := [7]) (by kernel_rfl) (by simp) ?_
                        refine AllReadyH.cons rfl (fun K hK => ?_) AllReadyH.nil
                        go_simp
                        refine hK.out _ _ trivial (fun hS_ => ?_)
                        clear hK
                        refine wpAnyH_ready (rs := [8]) (by kernel_rfl) (by simp) ?_
                        refine AllReadyH.cons rfl (fun K hK => ?_) AllReadyH.nil
                        (refine app_step_n rfl _ _ rfl w.heap.size _ _ k (by simp <;> omega) (by rfl) (R.out.alloc _).drew1 _ (by rfl) (s.extract 4 s.size) (by have h_ : ((w3.setCell ⟨w.heap.size + 1, 0, none⟩ (.int .i64 n)).alloc (.cells #[.string (s.extract 4 s.size)] 9)).drew.heap[(w3.setCell ⟨w.heap.size + 1, 0, none⟩ (.int .i64 n)).heap.size]? = _ := heap_alloc_new _ _; simpa using h_) (by omega) ((M.out.allocO _).drew1.low.size) ?_; intro g cap w4 hrow4 hgrow4 _ _; have M6 := Aside.mk ((M.out.allocO _).drew1.app (R.out.alloc _).drew1 hgrow4 (by simp)); have R6 := Aside.mk hrow4; have hne2 := Row.ne R6.out (M6.out.own _ (List.mem_cons_self ..)).2 (show 25 ≠ 9 by decide); have R7 := Aside.mk (R6.out.setOther (a := ⟨w.heap.size + 1, 4, none⟩) hne2 (.slice (some ⟨g, 0, none⟩) (k + 1) cap)); have M7 := Aside.mk (M6.out.set (by simp) 4 (.slice (some ⟨g, 0, none⟩) (k + 1) cap)); clear R hne2 hrow4 hgrow4 M R6; (try clear z0 z1 z2 z3 z4 y0 y1 y2 y3 y4 zl x0 x1 x2 x3 x4 u0 u1 u2 u3 u4 xl); have M := M6; clear M6; obtain ⟨z0, z1, z2, z3, z4, y0, y1, y2, y3, y4, zl, x0, x1, x2, x3, x4, u0, u1, u2, u3, u4, xl⟩ := pfacts M.out)
                        refine hK.out _ _ trivial (fun hS_ => ?_)
                        clear hK
                        refine wpAnyH_take (i := 9) (oi := ⟨some 103, _, _, _, _, _⟩) (v := ?_) rfl (by kernel_rfl) (by kernel_rfl) (by kernel_rfl) (fun _ _ _ h => h) (Or.inl ⟨by rfl, ?_⟩) hS_ ?_
                        rotate_left
                        · (intro w_ hSw_; first | (go_simp; done) | (go_simp; with_reducible rfl))
                        try simp only [Act.put, List.setIfInBounds_toArray, List.set_cons_zero, List.set_cons_succ]
                        refine wpAnyH_ready (rs := [10]) (by kernel_rfl) (by simp) ?_
                        refine AllReadyH.cons rfl (fun K hK => ?_) AllReadyH.nil
                        go_simp
                        refine hK.out _ _ trivial (fun hS_ => ?_)
                        clear hK
                        refine wpAnyH_done (by kernel_rfl) ?_ _
                        rotate_left
                        go_simp
                        refine hK.out _ _ trivial (fun hS_ => ?_)
                        clear hK
                        refine wpAnyH_ready (rs := [1]) (by kernel_rfl) (by simp) ?_
                        refine AllReadyH.cons rfl (fun K hK => ?_) AllReadyH.nil
                        have c4_ := (M.out.allocO (.cells #[.string (s.extract 4 s.size)] 9)).drew1.at 4 _ rfl
                        go_simp
                        clear c4_
                        refine hK.out _ _ trivial (fun hS_ => ?_)
                        clear hK
                        refine wpAnyH_ready (rs := [8]) (by kernel_rfl) (by simp) ?_
                        refine AllReadyH.cons rfl (fun K hK => ?_) AllReadyH.nil
                        (refine app_step_n rfl _ _ rfl w.heap.size _ _ k (by simp <;> omega) (by rfl) (R.out.alloc _).drew1 _ (by rfl) (s.extract 4 s.size) (by have h_ : ((w3.setCell ⟨w.heap.size + 1, 0, none⟩ (.int .i64 n)).alloc (.cells #[.string (s.extract 4 s.size)] 9)).drew.heap[(w3.setCell ⟨w.heap.size + 1, 0, none⟩ (.int .i64 n)).heap.size]? = _ := heap_alloc_new _ _; simpa using h_) (by omega) ((M.out.allocO _).drew1.low.size) ?_; intro g cap w4 hrow4 hgrow4 _ _; have M6 := Aside.mk ((M.out.allocO _).drew1.app (R.out.alloc _).drew1 hgrow4 (by simp)); have R6 := Aside.mk hrow4; have hne2 := Row.ne R6.out (M6.out.own _ (List.mem_cons_self ..)).2 (show 25 ≠ 9 by decide); have R7 := Aside.mk (R6.out.setOther (a := ⟨w.heap.size + 1, 4, none⟩) hne2 (.slice (some ⟨g, 0, none⟩) (k + 1) cap)); have M7 := Aside.mk (M6.out.set (by simp) 4 (.slice (some ⟨g, 0, none⟩) (k + 1) cap)); clear R hne2 hrow4 hgrow4 M R6; (try clear z0 z1 z2 z3 z4 y0 y1 y2 y3 y4 zl x0 x1 x2 x3 x4 u0 u1 u2 u3 u4 xl); have M := M6; clear M6; obtain ⟨z0, z1, z2, z3, z4, y0, y1, y2, y3, y4, zl, x0, x1, x2, x3, x4, u0, u1, u2, u3, u4, xl⟩ := pfacts M.out)
                        refine hK.out _ _ trivial (fun hS_ => ?_)
                        clear hK
                        refine wpAnyH_take (i := 9) (oi := ⟨some 103, _, _, _, _, _⟩) (v := ?_) rfl (by kernel_rfl) (by kernel_rfl) (by kernel_rfl) (fun _ _ _ h => h) (Or.inl ⟨by rfl, ?_⟩) hS_ ?_
                        rotate_left
                        · (intro w_ hSw_; first | (go_simp; done) | (go_simp; with_reducible rfl))
                        try simp only [Act.put, List.setIfInBounds_toArray, List.set_cons_zero, List.set_cons_succ]
                        refine wpAnyH_ready (rs := [10]) (by kernel_rfl) (by simp) ?_
                        refine AllReadyH.cons rfl (fun K hK => ?_) AllReadyH.nil
                        go_simp
                        refine hK.out _ _ trivial (fun hS_ => ?_)
                        clear hK
                        refine wpAnyH_done (by kernel_rfl) ?_ _
                        rotate_left
                        all_goals
                          clear M; (try clear z0 z1 z2 z3 z4 y0 y1 y2 y3 y4 zl x0 x1 x2 x3 x4 u0 u1 u2 u3 u4 xl)
                          have M : Aside (Mine w [(w.heap.size + 1, #[.int .i64 n, .int .i64 0, .int .i64 0, .int .i64 0, .slice (some ⟨g, 0, none⟩) (k + 1) cap], 25), (w.heap.size, #[.int .i64 0, .int .i64 0, .int .i64 0, .int .i64 0, .slice none 0 0], 25)] (w4.setCell ⟨w.heap.size + 1, 4, none⟩ (.slice (some ⟨g, 0, none⟩) (k + 1) cap))) := ⟨by simpa using M7.out⟩
                          have R : Aside (Row (w4.setCell ⟨w.heap.size + 1, 4, none⟩ (.slice (some ⟨g, 0, none⟩) (k + 1) cap)) w.heap.size (.slice (some ⟨g, 0, none⟩) (k + 1) cap) ((l.take (k + 1)).map Rp.say)) := ⟨by rw [HT.out]; simpa [HSay.out] using R7.out⟩
                          clear M7 R7
                          have HB7 : Aside (Blk (w4.setCell ⟨w.heap.size + 1, 4, none⟩ (.slice (some ⟨g, 0, none⟩) (k + 1) cap)) (w.heap.size + 1) #[.int .i64 n, .int .i64 0, .int .i64 0, .int .i64 0, .slice (some ⟨g, 0, none⟩) ((l.take (k + 1)).map Rp.say).length cap] 25) := ⟨by have := (M.out.own _ (List.mem_cons_self ..)).2; rw [List.length_map, List.length_take, Nat.min_eq_left (by omega)]; exact this⟩
                          have HS7 := Aside.mk R.out.strs
                          have hq7 : ∀ q ∈ (l.take (k + 1)).map Rp.say, q.size < 4294967281 := by
                            intro q hq; obtain ⟨p, hp, rfl⟩ := List.mem_map.1 hq; have := Hs.out p (List.mem_of_mem_take hp); have := Rp.say_size p; omega
                          have HQ7 := Aside.mk hq7; clear hq7
                          have hst := fun W hW hB hS => strip_any (w.heap.size + 1) n ((l.take (k + 1)).map Rp.say) (some ⟨g, 0, none⟩) cap W hW hB hS HQ7.out (by simp; omega) (by simp; omega)
                          have zl := Mine.lt M.out
                          have hgne := R.out.ne (M.out.own _ (List.mem_cons_self ..)).2 (show 25 ≠ 9 by decide)
                          go_wp2_with (go_at_call 27; (with_reducible refine (hst _ (hE.next M.out.low) HB7.out HS7.out).mono ?_); rintro e w8 ⟨⟨_, rfl⟩, h8⟩; obtain ⟨f1, f2, f3, A8, c8, xs8, hb8, hs8, hbody⟩ := strip_out h8 HS7.out zl (by intro q hq hq2; injection hq with hq; subst hq; simp only at hq2; subst hq2; exact hgne rfl); have H8 := Aside.mk hs8; have HBo := Lib.hid hbody; clear hs8 hbody; have z0 := Blk.cell hb8 0 _ rfl; have z1 := Blk.cell hb8 1 _ rfl; have z2 := Blk.cell hb8 2 _ rfl; have z3 := Blk.cell hb8 3 _ rfl; have z4 := Blk.cell hb8 4 _ rfl; have hx8 := Blk.chg (M.out.own _ (List.mem_cons_of_mem _ (List.mem_cons_self ..))).2 h8.1 (by simp); have low8 := Aside.mk (Chg.below M.out.low h8.1 (by intro q hq; omega) (Nat.le_of_lt (Nat.lt_of_le_of_lt (by omega) zl))); clear h8 hb8; have x0 := Blk.cell hx8 0 _ rfl; have x1 := Blk.cell hx8 1 _ rfl; have x2 := Blk.cell hx8 2 _ rfl; have x3 := Blk.cell hx8 3 _ rfl; have x4 := Blk.cell hx8 4 _ rfl; have u0 := Blk.free hx8 0; have u1 := Blk.free hx8 1; have u2 := Blk.free hx8 2; have u3 := Blk.free hx8 3; have u4 := Blk.free hx8 4; have HX8 := Aside.mk hx8; clear hx8)
                          refine bodyPost_ret (v := .tuple #[.agg #[.int .i64 n, .int .i64 f1, .int .i64 f2, .int .i64 f3, .slice A8 ((l.take (k + 1)).map Rp.say).length c8], .int .i64 ((k : Int) + 1), .int .i64 0]) (by simp [results, Tryd.results10, go_sem, x0, x1, x2, x3, x4]) rfl ?_
                          rw [List.length_map, List.length_take, Nat.min_eq_left (by omega)]
                          exact PsOut.good (by rw [HP.out, Rp.prs_last HBad.out HL.out, HC.out]) (by simp) HBo.out (strs_low5 H8.out HX8.out _ _ _ _ _) (low5 low8.out (Nat.le_refl _) _ _ _ _ _)
          · by_cases c45 : c = 45
            ·
              subst c45
              have HL : Hid (Rp.last s.data.toList = false) := Lib.hid (by rw [hxyz]; rfl)
              have HS0 : Hid (Rp.sgn s.data.toList = false) := Lib.hid (by rw [hxyz]; rfl)
              clear hxyz
              cases hd : (Rp.dgt x && Rp.dgt y && Rp.dgt z) with
              | false =>
                obtain ⟨a0, L0, hL⟩ : ∃ a0 L0, Lib.trimS [x, y, z] Rp.digs = a0 :: L0 := by
                  cases hq : Lib.trimS [x, y, z] Rp.digs with
                  | nil => have := (Rp.trim3 x y z).1 hq; rw [this] at hd; cases hd
                  | cons a0 L0 => exact ⟨a0, L0, rfl⟩
                have htrim := htrim0
                rw [hL] at htrim
                clear htrim0 hatoi0 hL
                have HBad : Hid (Rp.bad k cd s.data.toList = 2) := Lib.hid (Rp.bad_2 (.inl (by rw [HX.out]; show Rp.cls (if (Rp.dgt x && Rp.dgt y && Rp.dgt z) = true then _ else 0) = 0; rw [hd]; rfl)))
                go_wp2_with (first | (go_at_call 24; (with_reducible refine (htrim _).mono ?_); rintro e w1 ⟨rfl, hb⟩; replace M := Aside.mk (M.out.next hb); replace R := Aside.mk (R.out.next hb); clear hb; (try clear z0 z1 z2 z3 z4 y0 y1 y2 y3 y4 zl x0 x1 x2 x3 x4 u0 u1 u2 u3 u4 xl); obtain ⟨z0, z1, z2, z3, z4, y0, y1, y2, y3, y4, zl, x0, x1, x2, x3, x4, u0, u1, u2, u3, u4, xl⟩ := pfacts M.out) | (go_at_call 25; (with_reducible refine (hatoi _).mono ?_); rintro e w2 ⟨rfl, hb⟩; replace M := Aside.mk (M.out.next hb); replace R := Aside.mk (R.out.next hb); clear hb; (try clear z0 z1 z2 z3 z4 y0 y1 y2 y3 y4 zl x0 x1 x2 x3 x4 u0 u1 u2 u3 u4 xl); obtain ⟨z0, z1, z2, z3, z4, y0, y1, y2, y3, y4, zl, x0, x1, x2, x3, x4, u0, u1, u2, u3, u4, xl⟩ := pfacts M.out) | (go_at_call 19; (with_reducible refine (class_any _ _).mono ?_); rintro e w' ⟨rfl, rfl⟩) | (go_at_call 26; (with_reducible refine (hsh _).mono ?_); rintro e w3 ⟨rfl, hb⟩; replace M := Aside.mk (M.out.next hb); replace R := Aside.mk (R.out.next hb); clear hb; (try clear z0 z1 z2 z3 z4 y0 y1 y2 y3 y4 zl x0 x1 x2 x3 x4 u0 u1 u2 u3 u4 xl); obtain ⟨z0, z1, z2, z3, z4, y0, y1, y2, y3, y4, zl, x0, x1, x2, x3, x4, u0, u1, u2, u3, u4, xl⟩ := pfacts M.out) | (go_at_call 23; (with_reducible refine (fail_any _ _).mono ?_); rintro e w4 ⟨rfl, hb⟩; replace M := Aside.mk (M.out.next hb); replace R := Aside.mk (R.out.next hb); clear hb; (try clear z0 z1 z2 z3 z4 y0 y1 y2 y3 y4 zl x0 x1 x2 x3 x4 u0 u1 u2 u3 u4 xl); obtain ⟨z0, z1, z2, z3, z4, y0, y1, y2, y3, y4, zl, x0, x1, x2, x3, x4, u0, u1, u2, u3, u4, xl⟩ := pfacts M.out))
                all_goals
                  refine bodyPost_ret (v := .tuple #[.agg #[.int .i64 0, .int .i64 0, .int .i64 0, .int .i64 0, .slice none 0 0], .int .i64 0, .int .i64 2]) (by simp [results, Tryd.results10, go_sem, x0, x1, x2, x3, x4]) rfl ?_
                  exact PsOut.bad (HP.out.trans (Rp.prs_bad HBad.out (by decide))) (by decide) (low5 M.out.low (Nat.le_refl _) _ _ _ _ _)
              | true =>
                have hq : Lib.trimS [x, y, z] Rp.digs = [] := (Rp.trim3 x y z).2 hd
                have htrim := htrim0
                rw [hq] at htrim
                have hatoi := hatoi0 hd
                clear htrim0 hatoi0
                have HC : Hid (Rp.code s.data.toList = Rp.val3 x y z) := Lib.hid (by rw [HX.out]; show (if (Rp.dgt x && Rp.dgt y && Rp.dgt z) = true then _ else _) = _; rw [hd]; rfl)
                have hv := Rp.val3_range x y z hd
                clear hd hq
                generalize Rp.val3 x y z = n at hatoi HC hv
                by_cases hcls : Rp.cls n = 0
                ·
                  have e0 : ((Rp.cls n : Int) == 0) = true := by simpa using hcls
                  have HBad : Hid (Rp.bad k cd s.data.toList = 2) := Lib.hid (Rp.bad_2 (.inl (by rw [HC.out]; exact hcls)))
                  go_wp2_with (first | (go_at_call 24; (with_reducible refine (htrim _).mono ?_); rintro e w1 ⟨rfl, hb⟩; replace M := Aside.mk (M.out.next hb); replace R := Aside.mk (R.out.next hb); clear hb; (try clear z0 z1 z2 z3 z4 y0 y1 y2 y3 y4 zl x0 x1 x2 x3 x4 u0 u1 u2 u3 u4 xl); obtain ⟨z0, z1, z2, z3, z4, y0, y1, y2, y3, y4, zl, x0, x1, x2, x3, x4, u0, u1, u2, u3, u4, xl⟩ := pfacts M.out) | (go_at_call 25; (with_reducible refine (hatoi _).mono ?_); rintro e w2 ⟨rfl, hb⟩; replace M := Aside.mk (M.out.next hb); replace R := Aside.mk (R.out.next hb); clear hb; (try clear z0 z1 z2 z3 z4 y0 y1 y2 y3 y4 zl x0 x1 x2 x3 x4 u0 u1 u2 u3 u4 xl); obtain ⟨z0, z1, z2, z3, z4, y0, y1, y2, y3, y4, zl, x0, x1, x2, x3, x4, u0, u1, u2, u3, u4, xl⟩ := pfacts M.out) | (go_at_call 19; (with_reducible refine (class_any _ _).mono ?_); rintro e w' ⟨rfl, rfl⟩) | (go_at_call 26; (with_reducible refine (hsh _).mono ?_); rintro e w3 ⟨rfl, hb⟩; replace M := Aside.mk (M.out.next hb); replace R := Aside.mk (R.out.next hb); clear hb; (try clear z0 z1 z2 z3 z4 y0 y1 y2 y3 y4 zl x0 x1 x2 x3 x4 u0 u1 u2 u3 u4 xl); obtain ⟨z0, z1, z2, z3, z4, y0, y1, y2, y3, y4, zl, x0, x1, x2, x3, x4, u0, u1, u2, u3, u4, xl⟩ := pfacts M.out) | (go_at_call 23; (with_reducible refine (fail_any _ _).mono ?_); rintro e w4 ⟨rfl, hb⟩; replace M := Aside.mk (M.out.next hb); replace R := Aside.mk (R.out.next hb); clear hb; (try clear z0 z1 z2 z3 z4 y0 y1 y2 y3 y4 zl x0 x1 x2 x3 x4 u0 u1 u2 u3 u4 xl); obtain ⟨z0, z1, z2, z3, z4, y0, y1, y2, y3, y4, zl, x0, x1, x2, x3, x4, u0, u1, u2, u3, u4, xl⟩ := pfacts M.out))
                  all_goals
                    refine bodyPost_ret (v := .tuple #[.agg #[.int .i64 0, .int .i64 0, .int .i64 0, .int .i64 0, .slice none 0 0], .int .i64 0, .int .i64 2]) (by simp [results, Tryd.results10, go_sem, x0, x1, x2, x3, x4]) rfl ?_
                    exact PsOut.bad (HP.out.trans (Rp.prs_bad HBad.out (by decide))) (by decide) (low5 M.out.low (Nat.le_refl _) _ _ _ _ _)
                ·
                  have e0 : ((Rp.cls n : Int) == 0) = false := by simpa using hcls
                  have HCl := Lib.hid hcls
                  clear hcls
                  rcases Nat.eq_zero_or_pos k with rfl | hk0
                  ·
                    simp only [Nat.add_zero] at hcell
                    have HD : Hid (0 < 0 → Rp.code s.data.toList = cd) := Lib.hid (fun q => by omega)
                    cases hv1 : Rp.shown s.data.toList with
                    | false =>
                      rw [hv1] at hsh
                      have HBad : Hid (Rp.bad 0 cd s.data.toList = 2) := Lib.hid (Rp.bad_2 (.inr (.inr (.inr hv1))))
                      clear hv1
                      go_wp2_with (first | (go_at_call 24; (with_reducible refine (htrim _).mono ?_); rintro e w1 ⟨rfl, hb⟩; replace M := Aside.mk (M.out.next hb); replace R := Aside.mk (R.out.next hb); clear hb; (try clear z0 z1 z2 z3 z4 y0 y1 y2 y3 y4 zl x0 x1 x2 x3 x4 u0 u1 u2 u3 u4 xl); obtain ⟨z0, z1, z2, z3, z4, y0, y1, y2, y3, y4, zl, x0, x1, x2, x3, x4, u0, u1, u2, u3, u4, xl⟩ := pfacts M.out) | (go_at_call 25; (with_reducible refine (hatoi _).mono ?_); rintro e w2 ⟨rfl, hb⟩; replace M := Aside.mk (M.out.next hb); replace R := Aside.mk (R.out.next hb); clear hb; (try clear z0 z1 z2 z3 z4 y0 y1 y2 y3 y4 zl x0 x1 x2 x3 x4 u0 u1 u2 u3 u4 xl); obtain ⟨z0, z1, z2, z3, z4, y0, y1, y2, y3, y4, zl, x0, x1, x2, x3, x4, u0, u1, u2, u3, u4, xl⟩ := pfacts M.out) | (go_at_call 19; (with_reducible refine (class_any _ _).mono ?_); rintro e w' ⟨rfl, rfl⟩) | (go_at_call 26; (with_reducible refine (hsh _).mono ?_); rintro e w3 ⟨rfl, hb⟩; replace M := Aside.mk (M.out.next hb); replace R := Aside.mk (R.out.next hb); clear hb; (try clear z0 z1 z2 z3 z4 y0 y1 y2 y3 y4 zl x0 x1 x2 x3 x4 u0 u1 u2 u3 u4 xl); obtain ⟨z0, z1, z2, z3, z4, y0, y1, y2, y3, y4, zl, x0, x1, x2, x3, x4, u0, u1, u2, u3, u4, xl⟩ := pfacts M.out) | (go_at_call 23; (with_reducible refine (fail_any _ _).mono ?_); rintro e w4 ⟨rfl, hb⟩; replace M := Aside.mk (M.out.next hb); replace R := Aside.mk (R.out.next hb); clear hb; (try clear z0 z1 z2 z3 z4 y0 y1 y2 y3 y4 zl x0 x1 x2 x3 x4 u0 u1 u2 u3 u4 xl); obtain ⟨z0, z1, z2, z3, z4, y0, y1, y2, y3, y4, zl, x0, x1, x2, x3, x4, u0, u1, u2, u3, u4, xl⟩ := pfacts M.out))
                      all_goals
                        refine bodyPost_ret (v := .tuple #[.agg #[.int .i64 0, .int .i64 0, .int .i64 0, .int .i64 0, .slice none 0 0], .int .i64 0, .int .i64 2]) (by simp [results, Tryd.results10, go_sem, x0, x1, x2, x3, x4]) rfl ?_
                        exact PsOut.bad (HP.out.trans (Rp.prs_bad HBad.out (by decide))) (by decide) (low5 M.out.low (Nat.le_refl _) _ _ _ _ _)
                    | true =>
                      rw [hv1] at hsh
                      have HV := Lib.hid hv1
                      clear hv1
                      by_cases hlong : (510 : Int) < s.size
                      ·
                        have HBad : Hid (Rp.bad 0 cd s.data.toList = 3) := Lib.hid (Rp.bad_3 (by rw [HC.out]; exact HCl.out) HD.out HS0.out HV.out (by omega))
                        go_wp2_with (first | (go_at_call 24; (with_reducible refine (htrim _).mono ?_); rintro e w1 ⟨rfl, hb⟩; replace M := Aside.mk (M.out.next hb); replace R := Aside.mk (R.out.next hb); clear hb; (try clear z0 z1 z2 z3 z4 y0 y1 y2 y3 y4 zl x0 x1 x2 x3 x4 u0 u1 u2 u3 u4 xl); obtain ⟨z0, z1, z2, z3, z4, y0, y1, y2, y3, y4, zl, x0, x1, x2, x3, x4, u0, u1, u2, u3, u4, xl⟩ := pfacts M.out) | (go_at_call 25; (with_reducible refine (hatoi _).mono ?_); rintro e w2 ⟨rfl, hb⟩; replace M := Aside.mk (M.out.next hb); replace R := Aside.mk (R.out.next hb); clear hb; (try clear z0 z1 z2 z3 z4 y0 y1 y2 y3 y4 zl x0 x1 x2 x3 x4 u0 u1 u2 u3 u4 xl); obtain ⟨z0, z1, z2, z3, z4, y0, y1, y2, y3, y4, zl, x0, x1, x2, x3, x4, u0, u1, u2, u3, u4, xl⟩ := pfacts M.out) | (go_at_call 19; (with_reducible refine (class_any _ _).mono ?_); rintro e w' ⟨rfl, rfl⟩) | (go_at_call 26; (with_reducible refine (hsh _).mono ?_); rintro e w3 ⟨rfl, hb⟩; replace M := Aside.mk (M.out.next hb); replace R := Aside.mk (R.out.next hb); clear hb; (try clear z0 z1 z2 z3 z4 y0 y1 y2 y3 y4 zl x0 x1 x2 x3 x4 u0 u1 u2 u3 u4 xl); obtain ⟨z0, z1, z2, z3, z4, y0, y1, y2, y3, y4, zl, x0, x1, x2, x3, x4, u0, u1, u2, u3, u4, xl⟩ := pfacts M.out) | (go_at_call 23; (with_reducible refine (fail_any _ _).mono ?_); rintro e w4 ⟨rfl, hb⟩; replace M := Aside.mk (M.out.next hb); replace R := Aside.mk (R.out.next hb); clear hb; (try clear z0 z1 z2 z3 z4 y0 y1 y2 y3 y4 zl x0 x1 x2 x3 x4 u0 u1 u2 u3 u4 xl); obtain ⟨z0, z1, z2, z3, z4, y0, y1, y2, y3, y4, zl, x0, x1, x2, x3, x4, u0, u1, u2, u3, u4, xl⟩ := pfacts M.out))
                        all_goals
                          refine bodyPost_ret (v := .tuple #[.agg #[.int .i64 0, .int .i64 0, .int .i64 0, .int .i64 0, .slice none 0 0], .int .i64 0, .int .i64 3]) (by simp [results, Tryd.results10, go_sem, x0, x1, x2, x3, x4]) rfl ?_
                          exact PsOut.bad (HP.out.trans (Rp.prs_bad HBad.out (by decide))) (by decide) (low5 M.out.low (Nat.le_refl _) _ _ _ _ _)
                      ·
                        have HBad : Hid (Rp.bad 0 cd s.data.toList = 0) := Lib.hid (Rp.bad_0 (by rw [HC.out]; exact HCl.out) HD.out HS0.out HV.out (by omega) (by omega))
                        have hmin : min (4 : Int) (s.size : Int) = 4 := by omega
                        have hlo : 4 ≤ s.size := by omega
                        have hlo1 : (4 : Int) ≤ (s.size : Int) := by omega
                        have HSay : Hid (s.extract 4 s.size = Rp.say s) := Lib.hid (Rp.say_4 (by omega))
                        go_wp2_with (first | (go_at_call 24; (with_reducible refine (htrim _).mono ?_); rintro e w1 ⟨rfl, hb⟩; replace M := Aside.mk (M.out.next hb); replace R := Aside.mk (R.out.next hb); clear hb; (try clear z0 z1 z2 z3 z4 y0 y1 y2 y3 y4 zl x0 x1 x2 x3 x4 u0 u1 u2 u3 u4 xl); obtain ⟨z0, z1, z2, z3, z4, y0, y1, y2, y3, y4, zl, x0, x1, x2, x3, x4, u0, u1, u2, u3, u4, xl⟩ := pfacts M.out) | (go_at_call 25; (with_reducible refine (hatoi _).mono ?_); rintro e w2 ⟨rfl, hb⟩; replace M := Aside.mk (M.out.next hb); replace R := Aside.mk (R.out.next hb); clear hb; (try clear z0 z1 z2 z3 z4 y0 y1 y2 y3 y4 zl x0 x1 x2 x3 x4 u0 u1 u2 u3 u4 xl); obtain ⟨z0, z1, z2, z3, z4, y0, y1, y2, y3, y4, zl, x0, x1, x2, x3, x4, u0, u1, u2, u3, u4, xl⟩ := pfacts M.out) | (go_at_call 19; (with_reducible refine (class_any _ _).mono ?_); rintro e w' ⟨rfl, rfl⟩) | (go_at_call 26; (with_reducible refine (hsh _).mono ?_); rintro e w3 ⟨rfl, hb⟩; replace M := Aside.mk (M.out.next hb); replace R := Aside.mk (R.out.next hb); clear hb; (try clear z0 z1 z2 z3 z4 y0 y1 y2 y3 y4 zl x0 x1 x2 x3 x4 u0 u1 u2 u3 u4 xl); obtain ⟨z0, z1, z2, z3, z4, y0, y1, y2, y3, y4, zl, x0, x1, x2, x3, x4, u0, u1, u2, u3, u4, xl⟩ := pfacts M.out) | (go_at_call 23; (with_reducible refine (fail_any _ _).mono ?_); rintro e w4 ⟨rfl, hb⟩; replace M := Aside.mk (M.out.next hb); replace R := Aside.mk (R.out.next hb); clear hb; (try clear z0 z1 z2 z3 z4 y0 y1 y2 y3 y4 zl x0 x1 x2 x3 x4 u0 u1 u2 u3 u4 xl); obtain ⟨z0, z1, z2, z3, z4, y0, y1, y2, y3, y4, zl, x0, x1, x2, x3, x4, u0, u1, u2, u3, u4, xl⟩ := pfacts M.out))
                        have hne1 := Row.ne R.out (M.out.own _ (List.mem_cons_self ..)).2 (show 25 ≠ 9 by decide)
                        replace R := Aside.mk ((R.out.setOther (a := ⟨w.heap.size + 1, 0, none⟩) hne1 (.int .i64 n)))
                        have M5 := Aside.mk (M.out.set (by simp) 0 (.int .i64 n))
                        clear hne1 M
                        have M : Aside (Mine w [(w.heap.size + 1, #[.int .i64 n, .int .i64 0, .int .i64 0, .int .i64 0, v], 25), (w.heap.size, #[.int .i64 0, .int .i64 0, .int .i64 0, .int .i64 0, .slice none 0 0], 25)] (((w3.setCell ⟨w.heap.size + 1, 0, none⟩ (.int .i64 n))))) := ⟨by simpa using M5.out⟩
                        clear M5
                        refine wp_region_held_drew (S := fun _ => True) (by kernel_rfl) trivial (fun hS_ => ?_)
                        refine wpAnyH_take (i := 0) (oi := ⟨some 94, _, _, _, _, _⟩) (v := ?_) rfl (by kernel_rfl) (by kernel_rfl) (by kernel_rfl) (fun _ _ _ h => h) (Or.inl ⟨by rfl, ?_⟩) hS_ ?_
                        rotate_left
                        · (intro w_ hSw_; first | (go_simp; done) | (go_simp; with_reducible rfl))
                        try simp only [Act.put, List.setIfInBounds_toArray, List.set_cons_zero, List.set_cons_succ]
                        refine wpAnyH_take (i := 2) (oi := ⟨some 96, _, _, _, _, _⟩) (v := ?_) rfl (by kernel_rfl) (by kernel_rfl) (by kernel_rfl) (fun _ _ _ h => h) (Or.inl ⟨by rfl, ?_⟩) hS_ ?_
                        rotate_left
                        · (intro w_ hSw_; first | (go_simp; done) | (go_simp; with_reducible rfl))
                        try simp only [Act.put, List.setIfInBounds_toArray, List.set_cons_zero, List.set_cons_succ]
                        refine wpAnyH_take (i := 3) (oi := ⟨some 97, _, _, _, _, _⟩) (v := ?_) rfl (by kernel_rfl) (by kernel_rfl) (by kernel_rfl) (fun _ _ _ h => h) (Or.inl ⟨by rfl, ?_⟩) hS_ ?_
                        rotate_left
                        · (intro w_ hSw_; first | (go_simp; done) | (go_simp; with_reducible rfl))
                        try simp only [Act.put, List.setIfInBounds_toArray, List.set_cons_zero, List.set_cons_succ]
                        refine wpAnyH_take (i := 4) (oi := ⟨some 98, _, _, _, _, _⟩) (v := ?_) rfl (by kernel_rfl) (by kernel_rfl) (by kernel_rfl) (fun _ _ _ h => h) (Or.inl ⟨by rfl, ?_⟩) hS_ ?_
                        rotate_left
                        · (intro w_ hSw_; first | (go_simp; done) | (go_simp; with_reducible rfl))
                        try simp only [Act.put, List.setIfInBounds_toArray, List.set_cons_zero, List.set_cons_succ]
                        refine wpAnyH_take (i := 5) (oi := ⟨some 99, _, _, _, _, _⟩) (v := ?_) rfl (by kernel_rfl) (by kernel_rfl) (by kernel_rfl) (fun _ _ _ h => h) (Or.inl ⟨by rfl, ?_⟩) hS_ ?_
                        rotate_left
                        · (intro w_ hSw_; first | (go_simp; done) | (go_simp; with_reducible rfl))
                        try simp only [Act.put, List.setIfInBounds_toArray, List.set_cons_zero, List.set_cons_succ]
                        refine wpAnyH_take (i := 6) (oi := ⟨some 100, _, _, _, _, _⟩) (v := ?_) rfl (by kernel_rfl) (by kernel_rfl) (by kernel_rfl) (fun _ _ _ h => h) (Or.inl ⟨by rfl, ?_⟩) hS_ ?_
                        rotate_left
                        · (intro w_ hSw_; first | (go_simp; done) | (go_simp; with_reducible rfl))
                        try simp only [Act.put, List.setIfInBounds_toArray, List.set_cons_zero, List.set_cons_succ]
                        refine wpAnyH_ready (rs := [1, 7]) (by kernel_rfl) (by simp) ?_
                        refine AllReadyH.cons rfl (fun K hK => ?_) (AllReadyH.cons rfl (fun K hK => ?_) AllReadyH.nil)
                        have c4_ := M.out.drew1.at 4 _ rfl
                        go_simp
                        clear c4_
                        refine hK.out _ _ trivial (fun hS_ => ?_)
                        clear hK
                        refine wpAnyH_ready (rs := [7]) (by kernel_rfl) (by simp) ?_
                        refine AllReadyH.cons rfl (fun K hK => ?_) AllReadyH.nil
                        go_simp
                        refine hK.out _ _ trivial (fun hS_ => ?_)
                        clear hK
                        refine wpAnyH_ready (rs := [8]) (by kernel_rfl) (by simp) ?_
                        refine AllReadyH.cons rfl (fun K hK => ?_) AllReadyH.nil
                        (refine app_step_n rfl _ _ rfl w.heap.size _ _ 0 (by simp <;> omega) (by rfl) (R.out.alloc _).drew1 _ (by rfl) (s.extract 4 s.size) (by have h_ : ((w3.setCell ⟨w.heap.size + 1, 0, none⟩ (.int .i64 n)).alloc (.cells #[.string (s.extract 4 s.size)] 9)).drew.heap[(w3.setCell ⟨w.heap.size + 1, 0, none⟩ (.int .i64 n)).heap.size]? = _ := heap_alloc_new _ _; simpa using h_) (by omega) ((M.out.allocO _).drew1.low.size) ?_; intro g cap w4 hrow4 hgrow4 _ _; have M6 := Aside.mk ((M.out.allocO _).drew1.app (R.out.alloc _).drew1 hgrow4 (by simp)); have R6 := Aside.mk hrow4; have hne2 := Row.ne R6.out (M6.out.own _ (List.mem_cons_self ..)).2 (show 25 ≠ 9 by decide); have R7 := Aside.mk (R6.out.setOther (a := ⟨w.heap.size + 1, 4, none⟩) hne2 (.slice (some ⟨g, 0, none⟩) (0 + 1) cap)); have M7 := Aside.mk (M6.out.set (by simp) 4 (.slice (some ⟨g, 0, none⟩) (0 + 1) cap)); clear R hne2 hrow4 hgrow4 M R6; (try clear z0 z1 z2 z3 z4 y0 y1 y2 y3 y4 zl x0 x1 x2 x3 x4 u0 u1 u2 u3 u4 xl); have M := M6; clear M6; obtain ⟨z0, z1, z2, z3, z4, y0, y1, y2, y3, y4, zl, x0, x1, x2, x3, x4, u0, u1, u2, u3, u4, xl⟩ := pfacts M.out)
                        refine hK.out _ _ trivial (fun hS_ => ?_)
                        clear hK
                        refine wpAnyH_take (i := 9) (oi := ⟨some 103, _, _, _, _, _⟩) (v := ?_) rfl (by kernel_rfl) (by kernel_rfl) (by kernel_rfl) (fun _ _ _ h => h) (Or.inl ⟨by rfl, ?_⟩) hS_ ?_
                        rotate_left
                        · (intro w_ hSw_; first | (go_simp; done) | (go_simp; with_reducible rfl))
                        try simp only [Act.put, List.setIfInBounds_toArray, List.set_cons_zero, List.set_cons_succ]
                        refine wpAnyH_ready (rs := [10]) (by kernel_rfl) (by simp) ?_
                        refine AllReadyH.cons rfl (fun K hK => ?_) AllReadyH.nil
                        go_simp
                        refine hK.out _ _ trivial (fun hS_ => ?_)
                        clear hK
                        refine wpAnyH_done (by kernel_rfl) ?_ _
                        rotate_left
                        go_simp
                        refine hK.out _ _ trivial (fun hS_ => ?_)
                        clear hK
                        refine wpAnyH_ready (rs := [1]) (by kernel_rfl) (by simp) ?_
                        refine AllReadyH.cons rfl (fun K hK => ?_) AllReadyH.nil
                        have c4_ := (M.out.allocO (.cells #[.string (s.extract 4 s.size)] 9)).drew1.at 4 _ rfl
                        go_simp
                        clear c4_
                        refine hK.out _ _ trivial (fun hS_ => ?_)
                        clear hK
                        refine wpAnyH_ready (rs := [8]) (by kernel_rfl) (by simp) ?_
                        refine AllReadyH.cons rfl (fun K hK => ?_) AllReadyH.nil
                        (refine app_step_n rfl _ _ rfl w.heap.size _ _ 0 (by simp <;> omega) (by rfl) (R.out.alloc _).drew1 _ (by rfl) (s.extract 4 s.size) (by have h_ : ((w3.setCell ⟨w.heap.size + 1, 0, none⟩ (.int .i64 n)).alloc (.cells #[.string (s.extract 4 s.size)] 9)).drew.heap[(w3.setCell ⟨w.heap.size + 1, 0, none⟩ (.int .i64 n)).heap.size]? = _ := heap_alloc_new _ _; simpa using h_) (by omega) ((M.out.allocO _).drew1.low.size) ?_; intro g cap w4 hrow4 hgrow4 _ _; have M6 := Aside.mk ((M.out.allocO _).drew1.app (R.out.alloc _).drew1 hgrow4 (by simp)); have R6 := Aside.mk hrow4; have hne2 := Row.ne R6.out (M6.out.own _ (List.mem_cons_self ..)).2 (show 25 ≠ 9 by decide); have R7 := Aside.mk (R6.out.setOther (a := ⟨w.heap.size + 1, 4, none⟩) hne2 (.slice (some ⟨g, 0, none⟩) (0 + 1) cap)); have M7 := Aside.mk (M6.out.set (by simp) 4 (.slice (some ⟨g, 0, none⟩) (0 + 1) cap)); clear R hne2 hrow4 hgrow4 M R6; (try clear z0 z1 z2 z3 z4 y0 y1 y2 y3 y4 zl x0 x1 x2 x3 x4 u0 u1 u2 u3 u4 xl); have M := M6; clear M6; obtain ⟨z0, z1, z2, z3, z4, y0, y1, y2, y3, y4, zl, x0, x1, x2, x3, x4, u0, u1, u2, u3, u4, xl⟩ := pfacts M.out)
                        refine hK.out _ _ trivial (fun hS_ => ?_)
                        clear hK
                        refine wpAnyH_take (i := 9) (oi := ⟨some 103, _, _, _, _, _⟩) (v := ?_) rfl (by kernel_rfl) (by kernel_rfl) (by kernel_rfl) (fun _ _ _ h => h) (Or.inl ⟨by rfl, ?_⟩) hS_ ?_
                        rotate_left
                        · (intro w_ hSw_; first | (go_simp; done) | (go_simp; with_reducible rfl))
                        try simp only [Act.put, List.setIfInBounds_toArray, List.set_cons_zero, List.set_cons_succ]
                        refine wpAnyH_ready (rs := [10]) (by kernel_rfl) (by simp) ?_
                        refine AllReadyH.cons rfl (fun K hK => ?_) AllReadyH.nil
                        go_simp
                        refine hK.out _ _ trivial (fun hS_ => ?_)
                        clear hK
                        refine wpAnyH_done (by kernel_rfl) ?_ _
                        rotate_left
                        all_goals
                          clear M; (try clear z0 z1 z2 z3 z4 y0 y1 y2 y3 y4 zl x0 x1 x2 x3 x4 u0 u1 u2 u3 u4 xl)
                          have M : Aside (Mine w [(w.heap.size + 1, #[.int .i64 n, .int .i64 0, .int .i64 0, .int .i64 0, .slice (some ⟨g, 0, none⟩) (0 + 1) cap], 25), (w.heap.size, #[.int .i64 0, .int .i64 0, .int .i64 0, .int .i64 0, .slice none 0 0], 25)] (w4.setCell ⟨w.heap.size + 1, 4, none⟩ (.slice (some ⟨g, 0, none⟩) (0 + 1) cap))) := ⟨by simpa using M7.out⟩
                          have R : Aside (Row (w4.setCell ⟨w.heap.size + 1, 4, none⟩ (.slice (some ⟨g, 0, none⟩) (0 + 1) cap)) w.heap.size (.slice (some ⟨g, 0, none⟩) (0 + 1) cap) ((l.take (0 + 1)).map Rp.say)) := ⟨by rw [HT.out]; simpa [HSay.out] using R7.out⟩
                          clear M7 R7
                          obtain ⟨z0, z1, z2, z3, z4, y0, y1, y2, y3, y4, zl, x0, x1, x2, x3, x4, u0, u1, u2, u3, u4, xl⟩ := pfacts M.out
                          go_wp2
                          go_roundw
                          case rel => exact ⟨0 + 1, n, _, by omega, by go_num, by rw [HP.out, Rp.prs_more HBad.out HL.out, HC.out], by omega, by omega, R.out, M.out⟩
                          case measure => simp [intOf]; omega
                  ·
                    have hkp : (0 : Int) < (k : Int) := by omega
                    by_cases hcd : n = cd
                    rotate_left
                    ·
                      have hne : (n == cd) = false := by simpa using hcd
                      have dne : (n != cd) = true := by simp only [bne, hne]; rfl
                      have nne : decide (n = cd) = false := decide_eq_false hcd
                      have nn2 : ¬ n = cd := hcd
                      have HBad : Hid (Rp.bad k cd s.data.toList = 2) := Lib.hid (Rp.bad_2 (.inr (.inl ⟨hk0, by rw [HC.out]; exact hcd⟩)))
                      clear hcd
                      go_wp2_with (first | (go_at_call 24; (with_reducible refine (htrim _).mono ?_); rintro e w1 ⟨rfl, hb⟩; replace M := Aside.mk (M.out.next hb); replace R := Aside.mk (R.out.next hb); clear hb; (try clear z0 z1 z2 z3 z4 y0 y1 y2 y3 y4 zl x0 x1 x2 x3 x4 u0 u1 u2 u3 u4 xl); obtain ⟨z0, z1, z2, z3, z4, y0, y1, y2, y3, y4, zl, x0, x1, x2, x3, x4, u0, u1, u2, u3, u4, xl⟩ := pfacts M.out) | (go_at_call 25; (with_reducible refine (hatoi _).mono ?_); rintro e w2 ⟨rfl, hb⟩; replace M := Aside.mk (M.out.next hb); replace R := Aside.mk (R.out.next hb); clear hb; (try clear z0 z1 z2 z3 z4 y0 y1 y2 y3 y4 zl x0 x1 x2 x3 x4 u0 u1 u2 u3 u4 xl); obtain ⟨z0, z1, z2, z3, z4, y0, y1, y2, y3, y4, zl, x0, x1, x2, x3, x4, u0, u1, u2, u3, u4, xl⟩ := pfacts M.out) | (go_at_call 19; (with_reducible refine (class_any _ _).mono ?_); rintro e w' ⟨rfl, rfl⟩) | (go_at_call 26; (with_reducible refine (hsh _).mono ?_); rintro e w3 ⟨rfl, hb⟩; replace M := Aside.mk (M.out.next hb); replace R := Aside.mk (R.out.next hb); clear hb; (try clear z0 z1 z2 z3 z4 y0 y1 y2 y3 y4 zl x0 x1 x2 x3 x4 u0 u1 u2 u3 u4 xl); obtain ⟨z0, z1, z2, z3, z4, y0, y1, y2, y3, y4, zl, x0, x1, x2, x3, x4, u0, u1, u2, u3, u4, xl⟩ := pfacts M.out) | (go_at_call 23; (with_reducible refine (fail_any _ _).mono ?_); rintro e w4 ⟨rfl, hb⟩; replace M := Aside.mk (M.out.next hb); replace R := Aside.mk (R.out.next hb); clear hb; (try clear z0 z1 z2 z3 z4 y0 y1 y2 y3 y4 zl x0 x1 x2 x3 x4 u0 u1 u2 u3 u4 xl); obtain ⟨z0, z1, z2, z3, z4, y0, y1, y2, y3, y4, zl, x0, x1, x2, x3, x4, u0, u1, u2, u3, u4, xl⟩ := pfacts M.out))
                      all_goals
                        refine bodyPost_ret (v := .tuple #[.agg #[.int .i64 0, .int .i64 0, .int .i64 0, .int .i64 0, .slice none 0 0], .int .i64 0, .int .i64 2]) (by simp [results, Tryd.results10, go_sem, x0, x1, x2, x3, x4]) rfl ?_
                        exact PsOut.bad (HP.out.trans (Rp.prs_bad HBad.out (by decide))) (by decide) (low5 M.out.low (Nat.le_refl _) _ _ _ _ _)
                    subst hcd
                    have HD : Hid (0 < k → Rp.code s.data.toList = n) := Lib.hid (fun q => HC.out)
                    cases hv1 : Rp.shown s.data.toList with
                    | false =>
                      rw [hv1] at hsh
                      have HBad : Hid (Rp.bad k n s.data.toList = 2) := Lib.hid (Rp.bad_2 (.inr (.inr (.inr hv1))))
                      clear hv1
                      go_wp2_with (first | (go_at_call 24; (with_reducible refine (htrim _).mono ?_); rintro e w1 ⟨rfl, hb⟩; replace M := Aside.mk (M.out.next hb); replace R := Aside.mk (R.out.next hb); clear hb; (try clear z0 z1 z2 z3 z4 y0 y1 y2 y3 y4 zl x0 x1 x2 x3 x4 u0 u1 u2 u3 u4 xl); obtain ⟨z0, z1, z2, z3, z4, y0, y1, y2, y3, y4, zl, x0, x1, x2, x3, x4, u0, u1, u2, u3, u4, xl⟩ := pfacts M.out) | (go_at_call 25; (with_reducible refine (hatoi _).mono ?_); rintro e w2 ⟨rfl, hb⟩; replace M := Aside.mk (M.out.next hb); replace R := Aside.mk (R.out.next hb); clear hb; (try clear z0 z1 z2 z3 z4 y0 y1 y2 y3 y4 zl x0 x1 x2 x3 x4 u0 u1 u2 u3 u4 xl); obtain ⟨z0, z1, z2, z3, z4, y0, y1, y2, y3, y4, zl, x0, x1, x2, x3, x4, u0, u1, u2, u3, u4, xl⟩ := pfacts M.out) | (go_at_call 19; (with_reducible refine (class_any _ _).mono ?_); rintro e w' ⟨rfl, rfl⟩) | (go_at_call 26; (with_reducible refine (hsh _).mono ?_); rintro e w3 ⟨rfl, hb⟩; replace M := Aside.mk (M.out.next hb); replace R := Aside.mk (R.out.next hb); clear hb; (try clear z0 z1 z2 z3 z4 y0 y1 y2 y3 y4 zl x0 x1 x2 x3 x4 u0 u1 u2 u3 u4 xl); obtain ⟨z0, z1, z2, z3, z4, y0, y1, y2, y3, y4, zl, x0, x1, x2, x3, x4, u0, u1, u2, u3, u4, xl⟩ := pfacts M.out) | (go_at_call 23; (with_reducible refine (fail_any _ _).mono ?_); rintro e w4 ⟨rfl, hb⟩; replace M := Aside.mk (M.out.next hb); replace R := Aside.mk (R.out.next hb); clear hb; (try clear z0 z1 z2 z3 z4 y0 y1 y2 y3 y4 zl x0 x1 x2 x3 x4 u0 u1 u2 u3 u4 xl); obtain ⟨z0, z1, z2, z3, z4, y0, y1, y2, y3, y4, zl, x0, x1, x2, x3, x4, u0, u1, u2, u3, u4, xl⟩ := pfacts M.out))
                      all_goals
                        refine bodyPost_ret (v := .tuple #[.agg #[.int .i64 0, .int .i64 0, .int .i64 0, .int .i64 0, .slice none 0 0], .int .i64 0, .int .i64 2]) (by simp [results, Tryd.results10, go_sem, x0, x1, x2, x3, x4]) rfl ?_
                        exact PsOut.bad (HP.out.trans (Rp.prs_bad HBad.out (by decide))) (by decide) (low5 M.out.low (Nat.le_refl _) _ _ _ _ _)
                    | true =>
                      rw [hv1] at hsh
                      have HV := Lib.hid hv1
                      clear hv1
                      by_cases hlong : (510 : Int) < s.size
                      ·
                        have HBad : Hid (Rp.bad k n s.data.toList = 3) := Lib.hid (Rp.bad_3 (by rw [HC.out]; exact HCl.out) HD.out HS0.out HV.out (by omega))
                        go_wp2_with (first | (go_at_call 24; (with_reducible refine (htrim _).mono ?_); rintro e w1 ⟨rfl, hb⟩; replace M := Aside.mk (M.out.next hb); replace R := Aside.mk (R.out.next hb); clear hb; (try clear z0 z1 z2 z3 z4 y0 y1 y2 y3 y4 zl x0 x1 x2 x3 x4 u0 u1 u2 u3 u4 xl); obtain ⟨z0, z1, z2, z3, z4, y0, y1, y2, y3, y4, zl, x0, x1, x2, x3, x4, u0, u1, u2, u3, u4, xl⟩ := pfacts M.out) | (go_at_call 25; (with_reducible refine (hatoi _).mono ?_); rintro e w2 ⟨rfl, hb⟩; replace M := Aside.mk (M.out.next hb); replace R := Aside.mk (R.out.next hb); clear hb; (try clear z0 z1 z2 z3 z4 y0 y1 y2 y3 y4 zl x0 x1 x2 x3 x4 u0 u1 u2 u3 u4 xl); obtain ⟨z0, z1, z2, z3, z4, y0, y1, y2, y3, y4, zl, x0, x1, x2, x3, x4, u0, u1, u2, u3, u4, xl⟩ := pfacts M.out) | (go_at_call 19; (with_reducible refine (class_any _ _).mono ?_); rintro e w' ⟨rfl, rfl⟩) | (go_at_call 26; (with_reducible refine (hsh _).mono ?_); rintro e w3 ⟨rfl, hb⟩; replace M := Aside.mk (M.out.next hb); replace R := Aside.mk (R.out.next hb); clear hb; (try clear z0 z1 z2 z3 z4 y0 y1 y2 y3 y4 zl x0 x1 x2 x3 x4 u0 u1 u2 u3 u4 xl); obtain ⟨z0, z1, z2, z3, z4, y0, y1, y2, y3, y4, zl, x0, x1, x2, x3, x4, u0, u1, u2, u3, u4, xl⟩ := pfacts M.out) | (go_at_call 23; (with_reducible refine (fail_any _ _).mono ?_); rintro e w4 ⟨rfl, hb⟩; replace M := Aside.mk (M.out.next hb); replace R := Aside.mk (R.out.next hb); clear hb; (try clear z0 z1 z2 z3 z4 y0 y1 y2 y3 y4 zl x0 x1 x2 x3 x4 u0 u1 u2 u3 u4 xl); obtain ⟨z0, z1, z2, z3, z4, y0, y1, y2, y3, y4, zl, x0, x1, x2, x3, x4, u0, u1, u2, u3, u4, xl⟩ := pfacts M.out))
                        all_goals
                          refine bodyPost_ret (v := .tuple #[.agg #[.int .i64 0, .int .i64 0, .int .i64 0, .int .i64 0, .slice none 0 0], .int .i64 0, .int .i64 3]) (by simp [results, Tryd.results10, go_sem, x0, x1, x2, x3, x4]) rfl ?_
                          exact PsOut.bad (HP.out.trans (Rp.prs_bad HBad.out (by decide))) (by decide) (low5 M.out.low (Nat.le_refl _) _ _ _ _ _)
                      ·
                        by_cases h32 : (32 : Int) ≤ (k : Int)
                        ·
                          have HBad : Hid (Rp.bad k n s.data.toList = 3) := Lib.hid (Rp.bad_3 (by rw [HC.out]; exact HCl.out) HD.out HS0.out HV.out (by omega))
                          go_wp2_with (first | (go_at_call 24; (with_reducible refine (htrim _).mono ?_); rintro e w1 ⟨rfl, hb⟩; replace M := Aside.mk (M.out.next hb); replace R := Aside.mk (R.out.next hb); clear hb; (try clear z0 z1 z2 z3 z4 y0 y1 y2 y3 y4 zl x0 x1 x2 x3 x4 u0 u1 u2 u3 u4 xl); obtain ⟨z0, z1, z2, z3, z4, y0, y1, y2, y3, y4, zl, x0, x1, x2, x3, x4, u0, u1, u2, u3, u4, xl⟩ := pfacts M.out) | (go_at_call 25; (with_reducible refine (hatoi _).mono ?_); rintro e w2 ⟨rfl, hb⟩; replace M := Aside.mk (M.out.next hb); replace R := Aside.mk (R.out.next hb); clear hb; (try clear z0 z1 z2 z3 z4 y0 y1 y2 y3 y4 zl x0 x1 x2 x3 x4 u0 u1 u2 u3 u4 xl); obtain ⟨z0, z1, z2, z3, z4, y0, y1, y2, y3, y4, zl, x0, x1, x2, x3, x4, u0, u1, u2, u3, u4, xl⟩ := pfacts M.out) | (go_at_call 19; (with_reducible refine (class_any _ _).mono ?_); rintro e w' ⟨rfl, rfl⟩) | (go_at_call 26; (with_reducible refine (hsh _).mono ?_); rintro e w3 ⟨rfl, hb⟩; replace M := Aside.mk (M.out.next hb); replace R := Aside.mk (R.out.next hb); clear hb; (try clear z0 z1 z2 z3 z4 y0 y1 y2 y3 y4 zl x0 x1 x2 x3 x4 u0 u1 u2 u3 u4 xl); obtain ⟨z0, z1, z2, z3, z4, y0, y1, y2, y3, y4, zl, x0, x1, x2, x3, x4, u0, u1, u2, u3, u4, xl⟩ := pfacts M.out) | (go_at_call 23; (with_reducible refine (fail_any _ _).mono ?_); rintro e w4 ⟨rfl, hb⟩; replace M := Aside.mk (M.out.next hb); replace R := Aside.mk (R.out.next hb); clear hb; (try clear z0 z1 z2 z3 z4 y0 y1 y2 y3 y4 zl x0 x1 x2 x3 x4 u0 u1 u2 u3 u4 xl); obtain ⟨z0, z1, z2, z3, z4, y0, y1, y2, y3, y4, zl, x0, x1, x2, x3, x4, u0, u1, u2, u3, u4, xl⟩ := pfacts M.out))
                          all_goals
                            refine bodyPost_ret (v := .tuple #[.agg #[.int .i64 0, .int .i64 0, .int .i64 0, .int .i64 0, .slice none 0 0], .int .i64 0, .int .i64 3]) (by simp [results, Tryd.results10, go_sem, x0, x1, x2, x3, x4]) rfl ?_
                            exact PsOut.bad (HP.out.trans (Rp.prs_bad HBad.out (by decide))) (by decide) (low5 M.out.low (Nat.le_refl _) _ _ _ _ _)
                        ·
                          have HBad : Hid (Rp.bad k n s.data.toList = 0) := Lib.hid (Rp.bad_0 (by rw [HC.out]; exact HCl.out) HD.out HS0.out HV.out (by omega) (by omega))
                          have hmin : min (4 : Int) (s.size : Int) = 4 := by omega
                          have hlo : 4 ≤ s.size := by omega
                          have hlo1 : (4 : Int) ≤ (s.size : Int) := by omega
                          have HSay : Hid (s.extract 4 s.size = Rp.say s) := Lib.hid (Rp.say_4 (by omega))
                          go_wp2_with (first | (go_at_call 24; (with_reducible refine (htrim _).mono ?_); rintro e w1 ⟨rfl, hb⟩; replace M := Aside.mk (M.out.next hb); replace R := Aside.mk (R.out.next hb); clear hb; (try clear z0 z1 z2 z3 z4 y0 y1 y2 y3 y4 zl x0 x1 x2 x3 x4 u0 u1 u2 u3 u4 xl); obtain ⟨z0, z1, z2, z3, z4, y0, y1, y2, y3, y4, zl, x0, x1, x2, x3, x4, u0, u1, u2, u3, u4, xl⟩ := pfacts M.out) | (go_at_call 25; (with_reducible refine (hatoi _).mono ?_); rintro e w2 ⟨rfl, hb⟩; replace M := Aside.mk (M.out.next hb); replace R := Aside.mk (R.out.next hb); clear hb; (try clear z0 z1 z2 z3 z4 y0 y1 y2 y3 y4 zl x0 x1 x2 x3 x4 u0 u1 u2 u3 u4 xl); obtain ⟨z0, z1, z2, z3, z4, y0, y1, y2, y3, y4, zl, x0, x1, x2, x3, x4, u0, u1, u2, u3, u4, xl⟩ := pfacts M.out) | (go_at_call 19; (with_reducible refine (class_any _ _).mono ?_); rintro e w' ⟨rfl, rfl⟩) | (go_at_call 26; (with_reducible refine (hsh _).mono ?_); rintro e w3 ⟨rfl, hb⟩; replace M := Aside.mk (M.out.next hb); replace R := Aside.mk (R.out.next hb); clear hb; (try clear z0 z1 z2 z3 z4 y0 y1 y2 y3 y4 zl x0 x1 x2 x3 x4 u0 u1 u2 u3 u4 xl); obtain ⟨z0, z1, z2, z3, z4, y0, y1, y2, y3, y4, zl, x0, x1, x2, x3, x4, u0, u1, u2, u3, u4, xl⟩ := pfacts M.out) | (go_at_call 23; (with_reducible refine (fail_any _ _).mono ?_); rintro e w4 ⟨rfl, hb⟩; replace M := Aside.mk (M.out.next hb); replace R := Aside.mk (R.out.next hb); clear hb; (try clear z0 z1 z2 z3 z4 y0 y1 y2 y3 y4 zl x0 x1 x2 x3 x4 u0 u1 u2 u3 u4 xl); obtain ⟨z0, z1, z2, z3, z4, y0, y1, y2, y3, y4, zl, x0, x1, x2, x3, x4, u0, u1, u2, u3, u4, xl⟩ := pfacts M.out))
                          have hne1 := Row.ne R.out (M.out.own _ (List.mem_cons_self ..)).2 (show 25 ≠ 9 by decide)
                          replace R := Aside.mk ((R.out.setOther (a := ⟨w.heap.size + 1, 0, none⟩) hne1 (.int .i64 n)))
                          have M5 := Aside.mk (M.out.set (by simp) 0 (.int .i64 n))
                          clear hne1 M
                          have M : Aside (Mine w [(w.heap.size + 1, #[.int .i64 n, .int .i64 0, .int .i64 0, .int .i64 0, v], 25), (w.heap.size, #[.int .i64 0, .int .i64 0, .int .i64 0, .int .i64 0, .slice none 0 0], 25)] (((w3.setCell ⟨w.heap.size + 1, 0, none⟩ (.int .i64 n))))) := ⟨by simpa using M5.out⟩
                          clear M5
                          refine wp_region_held_drew (S := fun _ => True) (by kernel_rfl) trivial (fun hS_ => ?_)
                          refine wpAnyH_take (i := 0) (oi := ⟨some 94, _, _, _, _, _⟩) (v := ?_) rfl (by kernel_rfl) (by kernel_rfl) (by kernel_rfl) (fun _ _ _ h => h) (Or.inl ⟨by rfl, ?_⟩) hS_ ?_
                          rotate_left
                          · (intro w_ hSw_; first | (go_simp; done) | (go_simp; with_reducible rfl))
                          try simp only [Act.put, List.setIfInBounds_toArray, List.set_cons_zero, List.set_cons_succ]
                          refine wpAnyH_take (i := 2) (oi := ⟨some 96, _, _, _, _, _⟩) (v := ?_) rfl (by kernel_rfl) (by kernel_rfl) (by kernel_rfl) (fun _ _ _ h => h) (Or.inl ⟨by rfl, ?_⟩) hS_ ?_
                          rotate_left
                          · (intro w_ hSw_; first | (go_simp; done) | (go_simp; with_reducible rfl))
                          try simp only [Act.put, List.setIfInBounds_toArray, List.set_cons_zero, List.set_cons_succ]
                          refine wpAnyH_take (i := 3) (oi := ⟨some 97, _, _, _, _, _⟩) (v := ?_) rfl (by kernel_rfl) (by kernel_rfl) (by kernel_rfl) (fun _ _ _ h => h) (Or.inl ⟨by rfl, ?_⟩) hS_ ?_
                          rotate_left
                          · (intro w_ hSw_; first | (go_simp; done) | (go_simp; with_reducible rfl))
                          try simp only [Act.put, List.setIfInBounds_toArray, List.set_cons_zero, List.set_cons_succ]
                          refine wpAnyH_take (i := 4) (oi := ⟨some 98, _, _, _, _, _⟩) (v := ?_) rfl (by kernel_rfl) (by kernel_rfl) (by kernel_rfl) (fun _ _ _ h => h) (Or.inl ⟨by rfl, ?_⟩) hS_ ?_
                          rotate_left
                          · (intro w_ hSw_; first | (go_simp; done) | (go_simp; with_reducible rfl))
                          try simp only [Act.put, List.setIfInBounds_toArray, List.set_cons_zero, List.set_cons_succ]
                          refine wpAnyH_take (i := 5) (oi := ⟨some 99, _, _, _, _, _⟩) (v := ?_) rfl (by kernel_rfl) (by kernel_rfl) (by kernel_rfl) (fun _ _ _ h => h) (Or.inl ⟨by rfl, ?_⟩) hS_ ?_
                          rotate_left
                          · (intro w_ hSw_; first | (go_simp; done) | (go_simp; with_reducible rfl))
                          try simp only [Act.put, List.setIfInBounds_toArray, List.set_cons_zero, List.set_cons_succ]
                          refine wpAnyH_take (i := 6) (oi := ⟨some 100, _, _, _, _, _⟩) (v := ?_) rfl (by kernel_rfl) (by kernel_rfl) (by kernel_rfl) (fun _ _ _ h => h) (Or.inl ⟨by rfl, ?_⟩) hS_ ?_
                          rotate_left
                          · (intro w_ hSw_; first | (go_simp; done) | (go_simp; with_reducible rfl))
                          try simp only [Act.put, List.setIfInBounds_toArray, List.set_cons_zero, List.set_cons_succ]
                          refine wpAnyH_ready (rs := [1, 7]) (by kernel_rfl) (by simp) ?_
                          refine AllReadyH.cons rfl (fun K hK => ?_) (AllReadyH.cons rfl (fun K hK => ?_) AllReadyH.nil)
                          have c4_ := M.out.drew1.at 4 _ rfl
                          go_simp
                          clear c4_
                          refine hK.out _ _ trivial (fun hS_ => ?_)
                          clear hK
                          refine wpAnyH_ready (rs := [7]) (by kernel_rfl) (by simp) ?_
                          refine AllReadyH.cons rfl (fun K hK => ?_) AllReadyH.nil
                          go_simp
                          refine hK.out _ _ trivial (fun hS_ => ?_)
                          clear hK
                          refine wpAnyH_ready (rs := [8]) (by kernel_rfl) (by simp) ?_
                          refine AllReadyH.cons rfl (fun K hK => ?_) AllReadyH.nil
                          (refine app_step_n rfl _ _ rfl w.heap.size _ _ k (by simp <;> omega) (by rfl) (R.out.alloc _).drew1 _ (by rfl) (s.extract 4 s.size) (by have h_ : ((w3.setCell ⟨w.heap.size + 1, 0, none⟩ (.int .i64 n)).alloc (.cells #[.string (s.extract 4 s.size)] 9)).drew.heap[(w3.setCell ⟨w.heap.size + 1, 0, none⟩ (.int .i64 n)).heap.size]? = _ := heap_alloc_new _ _; simpa using h_) (by omega) ((M.out.allocO _).drew1.low.size) ?_; intro g cap w4 hrow4 hgrow4 _ _; have M6 := Aside.mk ((M.out.allocO _).drew1.app (R.out.alloc _).drew1 hgrow4 (by simp)); have R6 := Aside.mk hrow4; have hne2 := Row.ne R6.out (M6.out.own _ (List.mem_cons_self ..)).2 (show 25 ≠ 9 by decide); have R7 := Aside.mk (R6.out.setOther (a := ⟨w.heap.size + 1, 4, none⟩) hne2 (.slice (some ⟨g, 0, none⟩) (k + 1) cap)); have M7 := Aside.mk (M6.out.set (by simp) 4 (.slice (some ⟨g, 0, none⟩) (k + 1) cap)); clear R hne2 hrow4 hgrow4 M R6; (try clear z0 z1 z2 z3 z4 y0 y1 y2 y3 y4 zl x0 x1 x2 x3 x4 u0 u1 u2 u3 u4 xl); have M := M6; clear M6; obtain ⟨z0, z1, z2, z3, z4, y0, y1, y2, y3, y4, zl, x0, x1, x2, x3, x4, u0, u1, u2, u3, u4, xl⟩ := pfacts M.out)
                          refine hK.out _ _ trivial (fun hS_ => ?_)
                          clear hK
                          refine wpAnyH_take (i := 9) (oi := ⟨some 103, _, _, _, _, _⟩) (v := ?_) rfl (by kernel_rfl) (by kernel_rfl) (by kernel_rfl) (fun _ _ _ h => h) (Or.inl ⟨by rfl, ?_⟩) hS_ ?_
                          rotate_left
                          · (intro w_ hSw_; first | (go_simp; done) | (go_simp; with_reducible rfl))
                          try simp only [Act.put, List.setIfInBounds_toArray, List.set_cons_zero, List.set_cons_succ]
                          refine wpAnyH_ready (rs := [10]) (by kernel_rfl) (by simp) ?_
                          refine AllReadyH.cons rfl (fun K hK => ?_) AllReadyH.nil
                          go_simp
                          refine hK.out _ _ trivial (fun hS_ => ?_)
                          clear hK
                          refine wpAnyH_done (by kernel_rfl) ?_ _
                          rotate_left
                          go_simp
                          refine hK.out _ _ trivial (fun hS_ => ?_)
                          clear hK
                          refine wpAnyH_ready (rs := [1]) (by kernel_rfl) (by simp) ?_
                          refine AllReadyH.cons rfl (fun K hK => ?_) AllReadyH.nil
                          have c4_ := (M.out.allocO (.cells #[.string (s.extract 4 s.size)] 9)).drew1.at 4 _ rfl
                          go_simp
                          clear c4_
                          refine hK.out _ _ trivial (fun hS_ => ?_)
                          clear hK
                          refine wpAnyH_ready (rs := [8]) (by kernel_rfl) (by simp) ?_
                          refine AllReadyH.cons rfl (fun K hK => ?_) AllReadyH.nil
                          (refine app_step_n rfl _ _ rfl w.heap.size _ _ k (by simp <;> omega) (by rfl) (R.out.alloc _).drew1 _ (by rfl) (s.extract 4 s.size) (by have h_ : ((w3.setCell ⟨w.heap.size + 1, 0, none⟩ (.int .i64 n)).alloc (.cells #[.string (s.extract 4 s.size)] 9)).drew.heap[(w3.setCell ⟨w.heap.size + 1, 0, none⟩ (.int .i64 n)).heap.size]? = _ := heap_alloc_new _ _; simpa using h_) (by omega) ((M.out.allocO _).drew1.low.size) ?_; intro g cap w4 hrow4 hgrow4 _ _; have M6 := Aside.mk ((M.out.allocO _).drew1.app (R.out.alloc _).drew1 hgrow4 (by simp)); have R6 := Aside.mk hrow4; have hne2 := Row.ne R6.out (M6.out.own _ (List.mem_cons_self ..)).2 (show 25 ≠ 9 by decide); have R7 := Aside.mk (R6.out.setOther (a := ⟨w.heap.size + 1, 4, none⟩) hne2 (.slice (some ⟨g, 0, none⟩) (k + 1) cap)); have M7 := Aside.mk (M6.out.set (by simp) 4 (.slice (some ⟨g, 0, none⟩) (k + 1) cap)); clear R hne2 hrow4 hgrow4 M R6; (try clear z0 z1 z2 z3 z4 y0 y1 y2 y3 y4 zl x0 x1 x2 x3 x4 u0 u1 u2 u3 u4 xl); have M := M6; clear M6; obtain ⟨z0, z1, z2, z3, z4, y0, y1, y2, y3, y4, zl, x0, x1, x2, x3, x4, u0, u1, u2, u3, u4, xl⟩ := pfacts M.out)
                          refine hK.out _ _ trivial (fun hS_ => ?_)
                          clear hK
                          refine wpAnyH_take (i := 9) (oi := ⟨some 103, _, _, _, _, _⟩) (v := ?_) rfl (by kernel_rfl) (by kernel_rfl) (by kernel_rfl) (fun _ _ _ h => h) (Or.inl ⟨by rfl, ?_⟩) hS_ ?_
                          rotate_left
                          · (intro w_ hSw_; first | (go_simp; done) | (go_simp; with_reducible rfl))
                          try simp only [Act.put, List.setIfInBounds_toArray, List.set_cons_zero, List.set_cons_succ]
                          refine wpAnyH_ready (rs := [10]) (by kernel_rfl) (by simp) ?_
                          refine AllReadyH.cons rfl (fun K hK => ?_) AllReadyH.nil
                          go_simp
                          refine hK.out _ _ trivial (fun hS_ => ?_)
                          clear hK
                          refine wpAnyH_done (by kernel_rfl) ?_ _
                          rotate_left
                          all_goals
                            clear M; (try clear z0 z1 z2 z3 z4 y0 y1 y2 y3 y4 zl x0 x1 x2 x3 x4 u0 u1 u2 u3 u4 xl)
                            have M : Aside (Mine w [(w.heap.size + 1, #[.int .i64 n, .int .i64 0, .int .i64 0, .int .i64 0, .slice (some ⟨g, 0, none⟩) (k + 1) cap], 25), (w.heap.size, #[.int .i64 0, .int .i64 0, .int .i64 0, .int .i64 0, .slice none 0 0], 25)] (w4.setCell ⟨w.heap.size + 1, 4, none⟩ (.slice (some ⟨g, 0, none⟩) (k + 1) cap))) := ⟨by simpa using M7.out⟩
                            have R : Aside (Row (w4.setCell ⟨w.heap.size + 1, 4, none⟩ (.slice (some ⟨g, 0, none⟩) (k + 1) cap)) w.heap.size (.slice (some ⟨g, 0, none⟩) (k + 1) cap) ((l.take (k + 1)).map Rp.say)) := ⟨by rw [HT.out]; simpa [HSay.out] using R7.out⟩
                            clear M7 R7
                            obtain ⟨z0, z1, z2, z3, z4, y0, y1, y2, y3, y4, zl, x0, x1, x2, x3, x4, u0, u1, u2, u3, u4, xl⟩ := pfacts M.out
                            go_wp2
                            go_roundw
                            case rel => exact ⟨k + 1, n, _, by omega, by go_num, by rw [HP.out, Rp.prs_more HBad.out HL.out, HC.out], by omega, by omega, R.out, M.out⟩
                            case measure => simp [intOf]; omega
            ·
              have HL : Hid (Rp.last s.data.toList = false) := Lib.hid (by rw [hxyz]; simpa [Rp.last] using c32)
              have HS0 : Hid (Rp.sgn s.data.toList = true) := Lib.hid (by rw [hxyz]; simp [Rp.sgn, c32, c45])
              have b32 : ((c.toNat : Int) == 32) = false := by simp only [beq_eq_false_iff_ne, ne_eq]; intro q; exact c32 (UInt8.toNat_inj.1 (by show c.toNat = 32; omega))
              have b45 : ((c.toNat : Int) == 45) = false := by simp only [beq_eq_false_iff_ne, ne_eq]; intro q; exact c45 (UInt8.toNat_inj.1 (by show c.toNat = 45; omega))
              have hget2 : (((s[3]'(by omega)).toNat : Nat) : Int) = (c.toNat : Int) := by rw [hget]
              clear hget
              generalize (c.toNat : Int) = m3 at hget2 b32 b45
              have d45 : (m3 != 45) = true := by simp only [bne, b45]; rfl
              have n45 : ¬ m3 = 45 := by simpa using b45
              have e45 : decide (m3 = 45) = false := decide_eq_false n45
              clear hxyz
              cases hd : (Rp.dgt x && Rp.dgt y && Rp.dgt z) with
              | false =>
                obtain ⟨a0, L0, hL⟩ : ∃ a0 L0, Lib.trimS [x, y, z] Rp.digs = a0 :: L0 := by
                  cases hq : Lib.trimS [x, y, z] Rp.digs with
                  | nil => have := (Rp.trim3 x y z).1 hq; rw [this] at hd; cases hd
                  | cons a0 L0 => exact ⟨a0, L0, rfl⟩
                have htrim := htrim0
                rw [hL] at htrim
                clear htrim0 hatoi0 hL
                have HBad : Hid (Rp.bad k cd s.data.toList = 2) := Lib.hid (Rp.bad_2 (.inl (by rw [HX.out]; show Rp.cls (if (Rp.dgt x && Rp.dgt y && Rp.dgt z) = true then _ else 0) = 0; rw [hd]; rfl)))
                go_wp2_with (first | (go_at_call 24; (with_reducible refine (htrim _).mono ?_); rintro e w1 ⟨rfl, hb⟩; replace M := Aside.mk (M.out.next hb); replace R := Aside.mk (R.out.next hb); clear hb; (try clear z0 z1 z2 z3 z4 y0 y1 y2 y3 y4 zl x0 x1 x2 x3 x4 u0 u1 u2 u3 u4 xl); obtain ⟨z0, z1, z2, z3, z4, y0, y1, y2, y3, y4, zl, x0, x1, x2, x3, x4, u0, u1, u2, u3, u4, xl⟩ := pfacts M.out) | (go_at_call 25; (with_reducible refine (hatoi _).mono ?_); rintro e w2 ⟨rfl, hb⟩; replace M := Aside.mk (M.out.next hb); replace R := Aside.mk (R.out.next hb); clear hb; (try clear z0 z1 z2 z3 z4 y0 y1 y2 y3 y4 zl x0 x1 x2 x3 x4 u0 u1 u2 u3 u4 xl); obtain ⟨z0, z1, z2, z3, z4, y0, y1, y2, y3, y4, zl, x0, x1, x2, x3, x4, u0, u1, u2, u3, u4, xl⟩ := pfacts M.out) | (go_at_call 19; (with_reducible refine (class_any _ _).mono ?_); rintro e w' ⟨rfl, rfl⟩) | (go_at_call 26; (with_reducible refine (hsh _).mono ?_); rintro e w3 ⟨rfl, hb⟩; replace M := Aside.mk (M.out.next hb); replace R := Aside.mk (R.out.next hb); clear hb; (try clear z0 z1 z2 z3 z4 y0 y1 y2 y3 y4 zl x0 x1 x2 x3 x4 u0 u1 u2 u3 u4 xl); obtain ⟨z0, z1, z2, z3, z4, y0, y1, y2, y3, y4, zl, x0, x1, x2, x3, x4, u0, u1, u2, u3, u4, xl⟩ := pfacts M.out) | (go_at_call 23; (with_reducible refine (fail_any _ _).mono ?_); rintro e w4 ⟨rfl, hb⟩; replace M := Aside.mk (M.out.next hb); replace R := Aside.mk (R.out.next hb); clear hb; (try clear z0 z1 z2 z3 z4 y0 y1 y2 y3 y4 zl x0 x1 x2 x3 x4 u0 u1 u2 u3 u4 xl); obtain ⟨z0, z1, z2, z3, z4, y0, y1, y2, y3, y4, zl, x0, x1, x2, x3, x4, u0, u1, u2, u3, u4, xl⟩ := pfacts M.out))
                all_goals
                  refine bodyPost_ret (v := .tuple #[.agg #[.int .i64 0, .int .i64 0, .int .i64 0, .int .i64 0, .slice none 0 0], .int .i64 0, .int .i64 2]) (by simp [results, Tryd.results10, go_sem, x0, x1, x2, x3, x4]) rfl ?_
                  exact PsOut.bad (HP.out.trans (Rp.prs_bad HBad.out (by decide))) (by decide) (low5 M.out.low (Nat.le_refl _) _ _ _ _ _)
              | true =>
                have hq : Lib.trimS [x, y, z] Rp.digs = [] := (Rp.trim3 x y z).2 hd
                have htrim := htrim0
                rw [hq] at htrim
                have hatoi := hatoi0 hd
                clear htrim0 hatoi0
                have HC : Hid (Rp.code s.data.toList = Rp.val3 x y z) := Lib.hid (by rw [HX.out]; show (if (Rp.dgt x && Rp.dgt y && Rp.dgt z) = true then _ else _) = _; rw [hd]; rfl)
                have hv := Rp.val3_range x y z hd
                clear hd hq
                generalize Rp.val3 x y z = n at hatoi HC hv
                by_cases hcls : Rp.cls n = 0
                ·
                  have e0 : ((Rp.cls n : Int) == 0) = true := by simpa using hcls
                  have HBad : Hid (Rp.bad k cd s.data.toList = 2) := Lib.hid (Rp.bad_2 (.inl (by rw [HC.out]; exact hcls)))
                  go_wp2_with (first | (go_at_call 24; (with_reducible refine (htrim _).mono ?_); rintro e w1 ⟨rfl, hb⟩; replace M := Aside.mk (M.out.next hb); replace R := Aside.mk (R.out.next hb); clear hb; (try clear z0 z1 z2 z3 z4 y0 y1 y2 y3 y4 zl x0 x1 x2 x3 x4 u0 u1 u2 u3 u4 xl); obtain ⟨z0, z1, z2, z3, z4, y0, y1, y2, y3, y4, zl, x0, x1, x2, x3, x4, u0, u1, u2, u3, u4, xl⟩ := pfacts M.out) | (go_at_call 25; (with_reducible refine (hatoi _).mono ?_); rintro e w2 ⟨rfl, hb⟩; replace M := Aside.mk (M.out.next hb); replace R := Aside.mk (R.out.next hb); clear hb; (try clear z0 z1 z2 z3 z4 y0 y1 y2 y3 y4 zl x0 x1 x2 x3 x4 u0 u1 u2 u3 u4 xl); obtain ⟨z0, z1, z2, z3, z4, y0, y1, y2, y3, y4, zl, x0, x1, x2, x3, x4, u0, u1, u2, u3, u4, xl⟩ := pfacts M.out) | (go_at_call 19; (with_reducible refine (class_any _ _).mono ?_); rintro e w' ⟨rfl, rfl⟩) | (go_at_call 26; (with_reducible refine (hsh _).mono ?_); rintro e w3 ⟨rfl, hb⟩; replace M := Aside.mk (M.out.next hb); replace R := Aside.mk (R.out.next hb); clear hb; (try clear z0 z1 z2 z3 z4 y0 y1 y2 y3 y4 zl x0 x1 x2 x3 x4 u0 u1 u2 u3 u4 xl); obtain ⟨z0, z1, z2, z3, z4, y0, y1, y2, y3, y4, zl, x0, x1, x2, x3, x4, u0, u1, u2, u3, u4, xl⟩ := pfacts M.out) | (go_at_call 23; (with_reducible refine (fail_any _ _).mono ?_); rintro e w4 ⟨rfl, hb⟩; replace M := Aside.mk (M.out.next hb); replace R := Aside.mk (R.out.next hb); clear hb; (try clear z0 z1 z2 z3 z4 y0 y1 y2 y3 y4 zl x0 x1 x2 x3 x4 u0 u1 u2 u3 u4 xl); obtain ⟨z0, z1, z2, z3, z4, y0, y1, y2, y3, y4, zl, x0, x1, x2, x3, x4, u0, u1, u2, u3, u4, xl⟩ := pfacts M.out))
                  all_goals
                    refine bodyPost_ret (v := .tuple #[.agg #[.int .i64 0, .int .i64 0, .int .i64 0, .int .i64 0, .slice none 0 0], .int .i64 0, .int .i64 2]) (by simp [results, Tryd.results10, go_sem, x0, x1, x2, x3, x4]) rfl ?_
                    exact PsOut.bad (HP.out.trans (Rp.prs_bad HBad.out (by decide))) (by decide) (low5 M.out.low (Nat.le_refl _) _ _ _ _ _)
                ·
                  have e0 : ((Rp.cls n : Int) == 0) = false := by simpa using hcls
                  have HCl := Lib.hid hcls
                  clear hcls
                  rcases Nat.eq_zero_or_pos k with rfl | hk0
                  ·
                    simp only [Nat.add_zero] at hcell
                    have HD : Hid (0 < 0 → Rp.code s.data.toList = cd) := Lib.hid (fun q => by omega)
                    have HBad : Hid (Rp.bad 0 cd s.data.toList = 2) := Lib.hid (Rp.bad_2 (.inr (.inr (.inl HS0.out))))
                    go_wp2_with (first | (go_at_call 24; (with_reducible refine (htrim _).mono ?_); rintro e w1 ⟨rfl, hb⟩; replace M := Aside.mk (M.out.next hb); replace R := Aside.mk (R.out.next hb); clear hb; (try clear z0 z1 z2 z3 z4 y0 y1 y2 y3 y4 zl x0 x1 x2 x3 x4 u0 u1 u2 u3 u4 xl); obtain ⟨z0, z1, z2, z3, z4, y0, y1, y2, y3, y4, zl, x0, x1, x2, x3, x4, u0, u1, u2, u3, u4, xl⟩ := pfacts M.out) | (go_at_call 25; (with_reducible refine (hatoi _).mono ?_); rintro e w2 ⟨rfl, hb⟩; replace M := Aside.mk (M.out.next hb); replace R := Aside.mk (R.out.next hb); clear hb; (try clear z0 z1 z2 z3 z4 y0 y1 y2 y3 y4 zl x0 x1 x2 x3 x4 u0 u1 u2 u3 u4 xl); obtain ⟨z0, z1, z2, z3, z4, y0, y1, y2, y3, y4, zl, x0, x1, x2, x3, x4, u0, u1, u2, u3, u4, xl⟩ := pfacts M.out) | (go_at_call 19; (with_reducible refine (class_any _ _).mono ?_); rintro e w' ⟨rfl, rfl⟩) | (go_at_call 26; (with_reducible refine (hsh _).mono ?_); rintro e w3 ⟨rfl, hb⟩; replace M := Aside.mk (M.out.next hb); replace R := Aside.mk (R.out.next hb); clear hb; (try clear z0 z1 z2 z3 z4 y0 y1 y2 y3 y4 zl x0 x1 x2 x3 x4 u0 u1 u2 u3 u4 xl); obtain ⟨z0, z1, z2, z3, z4, y0, y1, y2, y3, y4, zl, x0, x1, x2, x3, x4, u0, u1, u2, u3, u4, xl⟩ := pfacts M.out) | (go_at_call 23; (with_reducible refine (fail_any _ _).mono ?_); rintro e w4 ⟨rfl, hb⟩; replace M := Aside.mk (M.out.next hb); replace R := Aside.mk (R.out.next hb); clear hb; (try clear z0 z1 z2 z3 z4 y0 y1 y2 y3 y4 zl x0 x1 x2 x3 x4 u0 u1 u2 u3 u4 xl); obtain ⟨z0, z1, z2, z3, z4, y0, y1, y2, y3, y4, zl, x0, x1, x2, x3, x4, u0, u1, u2, u3, u4, xl⟩ := pfacts M.out))
                    all_goals
                      refine bodyPost_ret (v := .tuple #[.agg #[.int .i64 0, .int .i64 0, .int .i64 0, .int .i64 0, .slice none 0 0], .int .i64 0, .int .i64 2]) (by simp [results, Tryd.results10, go_sem, x0, x1, x2, x3, x4]) rfl ?_
                      exact PsOut.bad (HP.out.trans (Rp.prs_bad HBad.out (by decide))) (by decide) (low5 M.out.low (Nat.le_refl _) _ _ _ _ _)
                  ·
                    have hkp : (0 : Int) < (k : Int) := by omega
                    by_cases hcd : n = cd
                    rotate_left
                    ·
                      have hne : (n == cd) = false := by simpa using hcd
                      have dne : (n != cd) = true := by simp only [bne, hne]; rfl
                      have nne : decide (n = cd) = false := decide_eq_false hcd
                      have nn2 : ¬ n = cd := hcd
                      have HBad : Hid (Rp.bad k cd s.data.toList = 2) := Lib.hid (Rp.bad_2 (.inr (.inl ⟨hk0, by rw [HC.out]; exact hcd⟩)))
                      clear hcd
                      go_wp2_with (first | (go_at_call 24; (with_reducible refine (htrim _).mono ?_); rintro e w1 ⟨rfl, hb⟩; replace M := Aside.mk (M.out.next hb); replace R := Aside.mk (R.out.next hb); clear hb; (try clear z0 z1 z2 z3 z4 y0 y1 y2 y3 y4 zl x0 x1 x2 x3 x4 u0 u1 u2 u3 u4 xl); obtain ⟨z0, z1, z2, z3, z4, y0, y1, y2, y3, y4, zl, x0, x1, x2, x3, x4, u0, u1, u2, u3, u4, xl⟩ := pfacts M.out) | (go_at_call 25; (with_reducible refine (hatoi _).mono ?_); rintro e w2 ⟨rfl, hb⟩; replace M := Aside.mk (M.out.next hb); replace R := Aside.mk (R.out.next hb); clear hb; (try clear z0 z1 z2 z3 z4 y0 y1 y2 y3 y4 zl x0 x1 x2 x3 x4 u0 u1 u2 u3 u4 xl); obtain ⟨z0, z1, z2, z3, z4, y0, y1, y2, y3, y4, zl, x0, x1, x2, x3, x4, u0, u1, u2, u3, u4, xl⟩ := pfacts M.out) | (go_at_call 19; (with_reducible refine (class_any _ _).mono ?_); rintro e w' ⟨rfl, rfl⟩) | (go_at_call 26; (with_reducible refine (hsh _).mono ?_); rintro e w3 ⟨rfl, hb⟩; replace M := Aside.mk (M.out.next hb); replace R := Aside.mk (R.out.next hb); clear hb; (try clear z0 z1 z2 z3 z4 y0 y1 y2 y3 y4 zl x0 x1 x2 x3 x4 u0 u1 u2 u3 u4 xl); obtain ⟨z0, z1, z2, z3, z4, y0, y1, y2, y3, y4, zl, x0, x1, x2, x3, x4, u0, u1, u2, u3, u4, xl⟩ := pfacts M.out) | (go_at_call 23; (with_reducible refine (fail_any _ _).mono ?_); rintro e w4 ⟨rfl, hb⟩; replace M := Aside.mk (M.out.next hb); replace R := Aside.mk (R.out.next hb); clear hb; (try clear z0 z1 z2 z3 z4 y0 y1 y2 y3 y4 zl x0 x1 x2 x3 x4 u0 u1 u2 u3 u4 xl); obtain ⟨z0, z1, z2, z3, z4, y0, y1, y2, y3, y4, zl, x0, x1, x2, x3, x4, u0, u1, u2, u3, u4, xl⟩ := pfacts M.out))
                      all_goals
                        refine bodyPost_ret (v := .tuple #[.agg #[.int .i64 0, .int .i64 0, .int .i64 0, .int .i64 0, .slice none 0 0], .int .i64 0, .int .i64 2]) (by simp [results, Tryd.results10, go_sem, x0, x1, x2, x3, x4]) rfl ?_
                        exact PsOut.bad (HP.out.trans (Rp.prs_bad HBad.out (by decide))) (by decide) (low5 M.out.low (Nat.le_refl _) _ _ _ _ _)
                    subst hcd
                    have HD : Hid (0 < k → Rp.code s.data.toList = n) := Lib.hid (fun q => HC.out)
                    have HBad : Hid (Rp.bad k n s.data.toList = 2) := Lib.hid (Rp.bad_2 (.inr (.inr (.inl HS0.out))))
                    go_wp2_with (first | (go_at_call 24; (with_reducible refine (htrim _).mono ?_); rintro e w1 ⟨rfl, hb⟩; replace M := Aside.mk (M.out.next hb); replace R := Aside.mk (R.out.next hb); clear hb; (try clear z0 z1 z2 z3 z4 y0 y1 y2 y3 y4 zl x0 x1 x2 x3 x4 u0 u1 u2 u3 u4 xl); obtain ⟨z0, z1, z2, z3, z4, y0, y1, y2, y3, y4, zl, x0, x1, x2, x3, x4, u0, u1, u2, u3, u4, xl⟩ := pfacts M.out) | (go_at_call 25; (with_reducible refine (hatoi _).mono ?_); rintro e w2 ⟨rfl, hb⟩; replace M := Aside.mk (M.out.next hb); replace R := Aside.mk (R.out.next hb); clear hb; (try clear z0 z1 z2 z3 z4 y0 y1 y2 y3 y4 zl x0 x1 x2 x3 x4 u0 u1 u2 u3 u4 xl); obtain ⟨z0, z1, z2, z3, z4, y0, y1, y2, y3, y4, zl, x0, x1, x2, x3, x4, u0, u1, u2, u3, u4, xl⟩ := pfacts M.out) | (go_at_call 19; (with_reducible refine (class_any _ _).mono ?_); rintro e w' ⟨rfl, rfl⟩) | (go_at_call 26; (with_reducible refine (hsh _).mono ?_); rintro e w3 ⟨rfl, hb⟩; replace M := Aside.mk (M.out.next hb); replace R := Aside.mk (R.out.next hb); clear hb; (try clear z0 z1 z2 z3 z4 y0 y1 y2 y3 y4 zl x0 x1 x2 x3 x4 u0 u1 u2 u3 u4 xl); obtain ⟨z0, z1, z2, z3, z4, y0, y1, y2, y3, y4, zl, x0, x1, x2, x3, x4, u0, u1, u2, u3, u4, xl⟩ := pfacts M.out) | (go_at_call 23; (with_reducible refine (fail_any _ _).mono ?_); rintro e w4 ⟨rfl, hb⟩; replace M := Aside.mk (M.out.next hb); replace R := Aside.mk (R.out.next hb); clear hb; (try clear z0 z1 z2 z3 z4 y0 y1 y2 y3 y4 zl x0 x1 x2 x3 x4 u0 u1 u2 u3 u4 xl); obtain ⟨z0, z1, z2, z3, z4, y0, y1, y2, y3, y4, zl, x0, x1, x2, x3, x4, u0, u1, u2, u3, u4, xl⟩ := pfacts M.out))
                    all_goals
                      refine bodyPost_ret (v := .tuple #[.agg #[.int .i64 0, .int .i64 0, .int .i64 0, .int .i64 0, .slice none 0 0], .int .i64 0, .int .i64 2]) (by simp [results, Tryd.results10, go_sem, x0, x1, x2, x3, x4]) rfl ?_
                      exact PsOut.bad (HP.out.trans (Rp.prs_bad HBad.out (by decide))) (by decide) (low5 M.out.low (Nat.le_refl _) _ _ _ _ _)
    ·
      have hke : k = l.length := by omega
      have hend : Rp.prs 0 0 l = (12, 0, 0) := by rw [hprs, List.drop_of_length_le (by omega)]; rfl
      clear hprs
      have HP := Lib.hid hend
      clear hend
      subst hke
      go_wp2_with (first | (go_at_call 23; (with_reducible refine (fail_any _ _).mono ?_); rintro e w4 ⟨rfl, hb⟩; replace M := Aside.mk (M.out.next hb); replace R := Aside.mk (R.out.next hb); clear hb; (try clear z0 z1 z2 z3 z4 y0 y1 y2 y3 y4 zl x0 x1 x2 x3 x4 u0 u1 u2 u3 u4 xl); obtain ⟨z0, z1, z2, z3, z4, y0, y1, y2, y3, y4, zl, x0, x1, x2, x3, x4, u0, u1, u2, u3, u4, xl⟩ := pfacts M.out))
      refine bodyPost_ret (v := .tuple #[.agg #[.int .i64 0, .int .i64 0, .int .i64 0, .int .i64 0, .slice none 0 0], .int .i64 0, .int .i64 12]) (by simp [results, Tryd.results10, go_sem, x0, x1, x2, x3, x4]) rfl ?_
      exact PsOut.bad HP.out (by decide) (low5 M.out.low (Nat.le_refl _) _ _ _ _ _)
end Go.Proofs.YtfeedokfcebjjaaDoor
