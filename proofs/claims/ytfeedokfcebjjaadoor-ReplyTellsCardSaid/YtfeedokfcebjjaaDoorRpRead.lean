/-
  Walks of the package reply: read.
-/
import Derived.Test.YtfeedokfcebjjaaDoorRpFit
import Derived.Test.YtfeedokfcebjjaaDoorStrs
import Derived.Test.YtfeedokfcebjjaaDoorMem3
import Derived.Outline
set_option linter.unusedVariables false
set_option linter.unusedSimpArgs false
namespace Go.Proofs.YtfeedokfcebjjaaDoor
open Go.RowKit
set_option maxRecDepth 100000
attribute [local go_sem] equal3
/-- What read returns. -/
def rdV (x : Int × Int × Int × List UInt8 × Bool) : Value := .tuple #[.agg #[.int .i64 x.1, .int .i64 x.2.1, .int .i64 x.2.2.1], .string ⟨x.2.2.2.1.toArray⟩, .bool x.2.2.2.2]
/-- Between two rounds: so many numbers are read. -/
inductive RdRel (w w1 : World) (p0 p1 p2 : ByteArray) : Value → World → Prop
  | s0 (wr : World) (M : Mine w [(w1.heap.size + 1, #[.int .i64 0, .int .i64 0, .int .i64 0], 23), (w1.heap.size, #[.string p0, .string p1, .string p2], 9), (w.heap.size, #[.int .i64 0, .int .i64 0, .int .i64 0], 23)] wr) : RdRel w w1 p0 p1 p2 (.int .i64 0) wr
  | s1 (wr : World) (d0 : Int) (h0 : Rp.canon p0.data.toList = some d0) (M : Mine w [(w1.heap.size + 1, #[.int .i64 d0, .int .i64 0, .int .i64 0], 23), (w1.heap.size, #[.string p0, .string p1, .string p2], 9), (w.heap.size, #[.int .i64 0, .int .i64 0, .int .i64 0], 23)] wr) : RdRel w w1 p0 p1 p2 (.int .i64 1) wr
  | s2 (wr : World) (d0 d1 : Int) (h0 : Rp.canon p0.data.toList = some d0) (h1 : Rp.canon p1.data.toList = some d1) (M : Mine w [(w1.heap.size + 1, #[.int .i64 d0, .int .i64 d1, .int .i64 0], 23), (w1.heap.size, #[.string p0, .string p1, .string p2], 9), (w.heap.size, #[.int .i64 0, .int .i64 0, .int .i64 0], 23)] wr) : RdRel w w1 p0 p1 p2 (.int .i64 2) wr
  | s3 (wr : World) (d0 d1 d2 : Int) (h0 : Rp.canon p0.data.toList = some d0) (h1 : Rp.canon p1.data.toList = some d1) (h2 : Rp.canon p2.data.toList = some d2) (M : Mine w [(w1.heap.size + 1, #[.int .i64 d0, .int .i64 d1, .int .i64 d2], 23), (w1.heap.size, #[.string p0, .string p1, .string p2], 9), (w.heap.size, #[.int .i64 0, .int .i64 0, .int .i64 0], 23)] wr) : RdRel w w1 p0 p1 p2 (.int .i64 3) wr
set_option maxHeartbeats 2000000 in
theorem read_unlike (code : Int) (s : ByteArray) (w : World) (hE : Env w) (hs : s.size < 4294967281) (p r : List UInt8) (ok : Bool) (n : Nat) (hc : Tok.cut 32 s.data.toList = (p, r, ok)) (hn : ok = false ∨ (ok = true ∧ n ≠ 3)) (ps : List ByteArray) (hl : ps.length = n)
    (hsplit : ∀ W, Env W → Calls Tryd.prog 55 #[.string ⟨p.toArray⟩, .string ⟨#[46]⟩] W fun e w' => e = .returned (.slice (some ⟨W.heap.size, 0, none⟩) n n) ∧ w' = W.alloc (.cells (ps.map Value.string).toArray 9)) :
    Calls Tryd.prog 39 #[.int .i64 code, .string s] w fun e w' => e = .returned (.tuple #[.agg #[.int .i64 0, .int .i64 0, .int .i64 0], .string ⟨#[]⟩, .bool false]) ∧ Below w.heap.size w w' := by
  have hcut := fun W hW => cut_any s ⟨#[32]⟩ W hW hs
  rw [show (⟨#[32]⟩ : ByteArray).data.toList = [32] from rfl, Tok.cut_eq, hc] at hcut
  clear hc
  have M : Aside (Mine w [(w.heap.size, #[.int .i64 0, .int .i64 0, .int .i64 0], 23)] (w.alloc (.cells #[.int .i64 0, .int .i64 0, .int .i64 0] 23))) := ⟨(Mine.start w).alloc _ _⟩
  rcases hn with rfl | ⟨rfl, hn⟩
  · go_enter Tryd.func39, Tryd.ntmps39
    go_wp2_with (first | (go_at_call 54; (with_reducible refine (hcut _ (hE.next M.out.low)).mono ?_); rintro e w1 ⟨rfl, hb⟩; replace M := Aside.mk (M.out.next hb); clear hb; have z0 := Mine.at M.out 0 _ rfl; have z1 := Mine.at M.out 1 _ rfl; have z2 := Mine.at M.out 2 _ rfl; have y0 := Mine.free M.out 0; have y1 := Mine.free M.out 1; have y2 := Mine.free M.out 2; have zl := Mine.lt M.out) | (go_at_call 55; (with_reducible refine (hsplit _ (hE.next M.out.low)).mono ?_); rintro e w2 ⟨rfl, rfl⟩))
    refine bodyPost_ret (v := .tuple #[.agg #[.int .i64 0, .int .i64 0, .int .i64 0], .string ⟨#[]⟩, .bool false]) (by simp [results, Tryd.results39, go_sem, z0, z1, z2, zl]) rfl ⟨rfl, ?_⟩
    exact ((((M.out.low.setCell (p := ⟨_, 0, none⟩) (Nat.le_refl _) _).setCell (p := ⟨_, 1, none⟩) (Nat.le_refl _) _).setCell (p := ⟨_, 2, none⟩) (Nat.le_refl _) _).alloc (by simp; omega) _).alloc (by simp; omega) _
  · have h3 : ((n : Int) != 3) = true := by simp; omega
    go_enter Tryd.func39, Tryd.ntmps39
    go_wp2_with (first | (go_at_call 54; (with_reducible refine (hcut _ (hE.next M.out.low)).mono ?_); rintro e w1 ⟨rfl, hb⟩; replace M := Aside.mk (M.out.next hb); clear hb; have z0 := Mine.at M.out 0 _ rfl; have z1 := Mine.at M.out 1 _ rfl; have z2 := Mine.at M.out 2 _ rfl; have y0 := Mine.free M.out 0; have y1 := Mine.free M.out 1; have y2 := Mine.free M.out 2; have zl := Mine.lt M.out) | (go_at_call 55; (with_reducible refine (hsplit _ (hE.next M.out.low)).mono ?_); rintro e w2 ⟨rfl, rfl⟩))
    refine bodyPost_ret (v := .tuple #[.agg #[.int .i64 0, .int .i64 0, .int .i64 0], .string ⟨#[]⟩, .bool false]) (by simp [results, Tryd.results39, go_sem, z0, z1, z2, zl]) rfl ⟨rfl, ?_⟩
    exact ((((M.out.low.setCell (p := ⟨_, 0, none⟩) (Nat.le_refl _) _).setCell (p := ⟨_, 1, none⟩) (Nat.le_refl _) _).setCell (p := ⟨_, 2, none⟩) (Nat.le_refl _) _).alloc (by simp; omega) _).alloc (by simp; omega) _
set_option maxHeartbeats 8000000 in
theorem read_like (code : Int) (s : ByteArray) (w : World) (hE : Env w) (hs : s.size < 4294967281) (p r : List UInt8) (hc : Tok.cut 32 s.data.toList = (p, r, true)) (p0 p1 p2 : ByteArray) (hz0 : p0.size ≤ 281474976710656) (hz1 : p1.size ≤ 281474976710656) (hz2 : p2.size ≤ 281474976710656)
    (hsplit : ∀ W, Env W → Calls Tryd.prog 55 #[.string ⟨p.toArray⟩, .string ⟨#[46]⟩] W fun e w' => e = .returned (.slice (some ⟨W.heap.size, 0, none⟩) 3 3) ∧ w' = W.alloc (.cells #[.string p0, .string p1, .string p2] 9)) :
    Calls Tryd.prog 39 #[.int .i64 code, .string s] w fun e w' => e = .returned (rdV (Rp.rdOf code r p0.data.toList p1.data.toList p2.data.toList)) ∧ Below w.heap.size w w' := by
  have hcut := fun W hW => cut_any s ⟨#[32]⟩ W hW hs
  rw [show (⟨#[32]⟩ : ByteArray).data.toList = [32] from rfl, Tok.cut_eq, hc] at hcut
  clear hc
  have M : Aside (Mine w [(w.heap.size, #[.int .i64 0, .int .i64 0, .int .i64 0], 23)] (w.alloc (.cells #[.int .i64 0, .int .i64 0, .int .i64 0] 23))) := ⟨(Mine.start w).alloc _ _⟩
  go_enter Tryd.func39, Tryd.ntmps39
  go_wp2_with (first | (go_at_call 54; (with_reducible refine (hcut _ (hE.next M.out.low)).mono ?_); rintro e w1 ⟨rfl, hb⟩; replace M := Aside.mk (M.out.next hb); clear hb; have z0 := Mine.at M.out 0 _ rfl; have z1 := Mine.at M.out 1 _ rfl; have z2 := Mine.at M.out 2 _ rfl; have y0 := Mine.free M.out 0; have y1 := Mine.free M.out 1; have y2 := Mine.free M.out 2; have zl := Mine.lt M.out) | (go_at_call 55; (with_reducible refine (hsplit _ (hE.next M.out.low)).mono ?_); rintro e w2 ⟨rfl, rfl⟩))
  go_loopw [34] (fun i wr => RdRel w w1 p0 p1 p2 i wr) (fun i _ => 3 - (intOf i).toNat)
  case atStart => exact RdRel.s0 _ (by have := (M.out.alloc #[.string p0, .string p1, .string p2] 9).alloc #[.int .i64 0, .int .i64 0, .int .i64 0] 23; simpa using this)
  case round =>
    have hw1 := zl
    clear M z0 z1 z2 y0 y1 y2 zl
    cases hrel
    case s0 M0 =>
      have M := Aside.mk M0
      clear M0
      have e0 := Mine.at M.out 0 _ rfl; have e1 := Mine.at M.out 1 _ rfl; have e2 := Mine.at M.out 2 _ rfl; have f0 := Mine.free M.out 0; have f1 := Mine.free M.out 1; have f2 := Mine.free M.out 2; have q0 := Mine.at M.out.drop 0 _ rfl; have q1 := Mine.at M.out.drop 1 _ rfl; have q2 := Mine.at M.out.drop 2 _ rfl; have z0 := Mine.at M.out.drop.drop 0 _ rfl; have z1 := Mine.at M.out.drop.drop 1 _ rfl; have z2 := Mine.at M.out.drop.drop 2 _ rfl; have y0 := Mine.free M.out.drop.drop 0; have y1 := Mine.free M.out.drop.drop 1; have y2 := Mine.free M.out.drop.drop 2; have zl := Mine.lt M.out; have zr := Mine.lt M.out.drop.drop
      cases hcn : Rp.canon p0.data.toList with
      | none =>
        have HX : Hid (Rp.rdOf code r p0.data.toList p1.data.toList p2.data.toList = (0, 0, 0, [], false)) := Lib.hid (Rp.rdOf_none0 hcn)
        rcases Rp.canon_none hcn with hb0 | ⟨v, hv1, hv2⟩
        · clear hcn
          have hat := fun W hW => atoi_bad p0 hz0 hb0 W hW
          clear hb0
          go_wp2_with (first | (go_at_call 25; (with_reducible refine (hat _ (hE.next M.out.low)).mono ?_); rintro e w3 ⟨nn, NN, rfl, hb⟩; replace M := Aside.mk (M.out.next hb); clear hb; clear e0 e1 e2 f0 f1 f2 q0 q1 q2 z0 z1 z2 y0 y1 y2 zl zr; have e0 := Mine.at M.out 0 _ rfl; have e1 := Mine.at M.out 1 _ rfl; have e2 := Mine.at M.out 2 _ rfl; have f0 := Mine.free M.out 0; have f1 := Mine.free M.out 1; have f2 := Mine.free M.out 2; have q0 := Mine.at M.out.drop 0 _ rfl; have q1 := Mine.at M.out.drop 1 _ rfl; have q2 := Mine.at M.out.drop 2 _ rfl; have z0 := Mine.at M.out.drop.drop 0 _ rfl; have z1 := Mine.at M.out.drop.drop 1 _ rfl; have z2 := Mine.at M.out.drop.drop 2 _ rfl; have y0 := Mine.free M.out.drop.drop 0; have y1 := Mine.free M.out.drop.drop 1; have y2 := Mine.free M.out.drop.drop 2; have zl := Mine.lt M.out; have zr := Mine.lt M.out.drop.drop))
          refine bodyPost_ret (v := .tuple #[.agg #[.int .i64 0, .int .i64 0, .int .i64 0], .string ⟨#[]⟩, .bool false]) (by simp [results, Tryd.results39, go_sem, z0, z1, z2, zr]) rfl ⟨by rw [HX.out]; rfl, ?_⟩
          exact ((M.out.low.setCell (p := ⟨_, 0, none⟩) (Nat.le_refl _) _).setCell (p := ⟨_, 1, none⟩) (Nat.le_refl _) _).setCell (p := ⟨_, 2, none⟩) (Nat.le_refl _) _
        · clear hcn
          have hat := fun W => atoi_ok p0 hz0 v hv1 W
          obtain ⟨hvb0, hvb1⟩ := Rp.atoi_range hv1
          have hit := fun W hW => itoa_any v W hvb0 hvb1 hW
          have hne : (Lib.itoa v == p0.toList) = false := by rw [Go.ByteArray.toList_eq]; simpa using hv2
          clear hv1 hv2
          go_wp2_with (first | (go_at_call 25; (with_reducible refine (hat _).mono ?_); rintro e w3 ⟨rfl, hb⟩; replace M := Aside.mk (M.out.next hb); clear hb; clear e0 e1 e2 f0 f1 f2 q0 q1 q2 z0 z1 z2 y0 y1 y2 zl zr; have e0 := Mine.at M.out 0 _ rfl; have e1 := Mine.at M.out 1 _ rfl; have e2 := Mine.at M.out 2 _ rfl; have f0 := Mine.free M.out 0; have f1 := Mine.free M.out 1; have f2 := Mine.free M.out 2; have q0 := Mine.at M.out.drop 0 _ rfl; have q1 := Mine.at M.out.drop 1 _ rfl; have q2 := Mine.at M.out.drop 2 _ rfl; have z0 := Mine.at M.out.drop.drop 0 _ rfl; have z1 := Mine.at M.out.drop.drop 1 _ rfl; have z2 := Mine.at M.out.drop.drop 2 _ rfl; have y0 := Mine.free M.out.drop.drop 0; have y1 := Mine.free M.out.drop.drop 1; have y2 := Mine.free M.out.drop.drop 2; have zl := Mine.lt M.out; have zr := Mine.lt M.out.drop.drop) | (go_at_call 31; (with_reducible refine (hit _ (hE.next M.out.low)).mono ?_); rintro e w3 ⟨rfl, hb⟩; replace M := Aside.mk (M.out.next hb); clear hb; clear e0 e1 e2 f0 f1 f2 q0 q1 q2 z0 z1 z2 y0 y1 y2 zl zr; have e0 := Mine.at M.out 0 _ rfl; have e1 := Mine.at M.out 1 _ rfl; have e2 := Mine.at M.out 2 _ rfl; have f0 := Mine.free M.out 0; have f1 := Mine.free M.out 1; have f2 := Mine.free M.out 2; have q0 := Mine.at M.out.drop 0 _ rfl; have q1 := Mine.at M.out.drop 1 _ rfl; have q2 := Mine.at M.out.drop 2 _ rfl; have z0 := Mine.at M.out.drop.drop 0 _ rfl; have z1 := Mine.at M.out.drop.drop 1 _ rfl; have z2 := Mine.at M.out.drop.drop 2 _ rfl; have y0 := Mine.free M.out.drop.drop 0; have y1 := Mine.free M.out.drop.drop 1; have y2 := Mine.free M.out.drop.drop 2; have zl := Mine.lt M.out; have zr := Mine.lt M.out.drop.drop))
          refine bodyPost_ret (v := .tuple #[.agg #[.int .i64 0, .int .i64 0, .int .i64 0], .string ⟨#[]⟩, .bool false]) (by simp [results, Tryd.results39, go_sem, z0, z1, z2, zr]) rfl ⟨by rw [HX.out]; rfl, ?_⟩
          exact ((M.out.low.setCell (p := ⟨_, 0, none⟩) (Nat.le_refl _) _).setCell (p := ⟨_, 1, none⟩) (Nat.le_refl _) _).setCell (p := ⟨_, 2, none⟩) (Nat.le_refl _) _
      | some v =>
        obtain ⟨hv1, hv2⟩ := Rp.canon_some hcn
        have HC := Lib.hid hcn
        clear hcn
        have hat := fun W => atoi_ok p0 hz0 v hv1 W
        obtain ⟨hvb0, hvb1⟩ := Rp.atoi_range hv1
        have hit := fun W hW => itoa_any v W hvb0 hvb1 hW
        have hne : (Lib.itoa v == p0.toList) = true := by rw [Go.ByteArray.toList_eq]; simpa using hv2
        clear hv1 hv2
        go_wp2_with (first | (go_at_call 25; (with_reducible refine (hat _).mono ?_); rintro e w3 ⟨rfl, hb⟩; replace M := Aside.mk (M.out.next hb); clear hb; clear e0 e1 e2 f0 f1 f2 q0 q1 q2 z0 z1 z2 y0 y1 y2 zl zr; have e0 := Mine.at M.out 0 _ rfl; have e1 := Mine.at M.out 1 _ rfl; have e2 := Mine.at M.out 2 _ rfl; have f0 := Mine.free M.out 0; have f1 := Mine.free M.out 1; have f2 := Mine.free M.out 2; have q0 := Mine.at M.out.drop 0 _ rfl; have q1 := Mine.at M.out.drop 1 _ rfl; have q2 := Mine.at M.out.drop 2 _ rfl; have z0 := Mine.at M.out.drop.drop 0 _ rfl; have z1 := Mine.at M.out.drop.drop 1 _ rfl; have z2 := Mine.at M.out.drop.drop 2 _ rfl; have y0 := Mine.free M.out.drop.drop 0; have y1 := Mine.free M.out.drop.drop 1; have y2 := Mine.free M.out.drop.drop 2; have zl := Mine.lt M.out; have zr := Mine.lt M.out.drop.drop) | (go_at_call 31; (with_reducible refine (hit _ (hE.next M.out.low)).mono ?_); rintro e w3 ⟨rfl, hb⟩; replace M := Aside.mk (M.out.next hb); clear hb; clear e0 e1 e2 f0 f1 f2 q0 q1 q2 z0 z1 z2 y0 y1 y2 zl zr; have e0 := Mine.at M.out 0 _ rfl; have e1 := Mine.at M.out 1 _ rfl; have e2 := Mine.at M.out 2 _ rfl; have f0 := Mine.free M.out 0; have f1 := Mine.free M.out 1; have f2 := Mine.free M.out 2; have q0 := Mine.at M.out.drop 0 _ rfl; have q1 := Mine.at M.out.drop 1 _ rfl; have q2 := Mine.at M.out.drop 2 _ rfl; have z0 := Mine.at M.out.drop.drop 0 _ rfl; have z1 := Mine.at M.out.drop.drop 1 _ rfl; have z2 := Mine.at M.out.drop.drop 2 _ rfl; have y0 := Mine.free M.out.drop.drop 0; have y1 := Mine.free M.out.drop.drop 1; have y2 := Mine.free M.out.drop.drop 2; have zl := Mine.lt M.out; have zr := Mine.lt M.out.drop.drop))
        go_roundw
        case rel => exact RdRel.s1 _  v  HC.out (Mine.set M.out (by simp; omega) 0 _)
        case measure => decide
    case s1 d0 h0 M0 =>
      have M := Aside.mk M0
      clear M0
      have H0 := Lib.hid h0
      clear h0
      have e0 := Mine.at M.out 0 _ rfl; have e1 := Mine.at M.out 1 _ rfl; have e2 := Mine.at M.out 2 _ rfl; have f0 := Mine.free M.out 0; have f1 := Mine.free M.out 1; have f2 := Mine.free M.out 2; have q0 := Mine.at M.out.drop 0 _ rfl; have q1 := Mine.at M.out.drop 1 _ rfl; have q2 := Mine.at M.out.drop 2 _ rfl; have z0 := Mine.at M.out.drop.drop 0 _ rfl; have z1 := Mine.at M.out.drop.drop 1 _ rfl; have z2 := Mine.at M.out.drop.drop 2 _ rfl; have y0 := Mine.free M.out.drop.drop 0; have y1 := Mine.free M.out.drop.drop 1; have y2 := Mine.free M.out.drop.drop 2; have zl := Mine.lt M.out; have zr := Mine.lt M.out.drop.drop
      cases hcn : Rp.canon p1.data.toList with
      | none =>
        have HX : Hid (Rp.rdOf code r p0.data.toList p1.data.toList p2.data.toList = (0, 0, 0, [], false)) := Lib.hid (Rp.rdOf_none1 hcn)
        rcases Rp.canon_none hcn with hb0 | ⟨v, hv1, hv2⟩
        · clear hcn
          have hat := fun W hW => atoi_bad p1 hz1 hb0 W hW
          clear hb0
          go_wp2_with (first | (go_at_call 25; (with_reducible refine (hat _ (hE.next M.out.low)).mono ?_); rintro e w3 ⟨nn, NN, rfl, hb⟩; replace M := Aside.mk (M.out.next hb); clear hb; clear e0 e1 e2 f0 f1 f2 q0 q1 q2 z0 z1 z2 y0 y1 y2 zl zr; have e0 := Mine.at M.out 0 _ rfl; have e1 := Mine.at M.out 1 _ rfl; have e2 := Mine.at M.out 2 _ rfl; have f0 := Mine.free M.out 0; have f1 := Mine.free M.out 1; have f2 := Mine.free M.out 2; have q0 := Mine.at M.out.drop 0 _ rfl; have q1 := Mine.at M.out.drop 1 _ rfl; have q2 := Mine.at M.out.drop 2 _ rfl; have z0 := Mine.at M.out.drop.drop 0 _ rfl; have z1 := Mine.at M.out.drop.drop 1 _ rfl; have z2 := Mine.at M.out.drop.drop 2 _ rfl; have y0 := Mine.free M.out.drop.drop 0; have y1 := Mine.free M.out.drop.drop 1; have y2 := Mine.free M.out.drop.drop 2; have zl := Mine.lt M.out; have zr := Mine.lt M.out.drop.drop))
          refine bodyPost_ret (v := .tuple #[.agg #[.int .i64 0, .int .i64 0, .int .i64 0], .string ⟨#[]⟩, .bool false]) (by simp [results, Tryd.results39, go_sem, z0, z1, z2, zr]) rfl ⟨by rw [HX.out]; rfl, ?_⟩
          exact ((M.out.low.setCell (p := ⟨_, 0, none⟩) (Nat.le_refl _) _).setCell (p := ⟨_, 1, none⟩) (Nat.le_refl _) _).setCell (p := ⟨_, 2, none⟩) (Nat.le_refl _) _
        · clear hcn
          have hat := fun W => atoi_ok p1 hz1 v hv1 W
          obtain ⟨hvb0, hvb1⟩ := Rp.atoi_range hv1
          have hit := fun W hW => itoa_any v W hvb0 hvb1 hW
          have hne : (Lib.itoa v == p1.toList) = false := by rw [Go.ByteArray.toList_eq]; simpa using hv2
          clear hv1 hv2
          go_wp2_with (first | (go_at_call 25; (with_reducible refine (hat _).mono ?_); rintro e w3 ⟨rfl, hb⟩; replace M := Aside.mk (M.out.next hb); clear hb; clear e0 e1 e2 f0 f1 f2 q0 q1 q2 z0 z1 z2 y0 y1 y2 zl zr; have e0 := Mine.at M.out 0 _ rfl; have e1 := Mine.at M.out 1 _ rfl; have e2 := Mine.at M.out 2 _ rfl; have f0 := Mine.free M.out 0; have f1 := Mine.free M.out 1; have f2 := Mine.free M.out 2; have q0 := Mine.at M.out.drop 0 _ rfl; have q1 := Mine.at M.out.drop 1 _ rfl; have q2 := Mine.at M.out.drop 2 _ rfl; have z0 := Mine.at M.out.drop.drop 0 _ rfl; have z1 := Mine.at M.out.drop.drop 1 _ rfl; have z2 := Mine.at M.out.drop.drop 2 _ rfl; have y0 := Mine.free M.out.drop.drop 0; have y1 := Mine.free M.out.drop.drop 1; have y2 := Mine.free M.out.drop.drop 2; have zl := Mine.lt M.out; have zr := Mine.lt M.out.drop.drop) | (go_at_call 31; (with_reducible refine (hit _ (hE.next M.out.low)).mono ?_); rintro e w3 ⟨rfl, hb⟩; replace M := Aside.mk (M.out.next hb); clear hb; clear e0 e1 e2 f0 f1 f2 q0 q1 q2 z0 z1 z2 y0 y1 y2 zl zr; have e0 := Mine.at M.out 0 _ rfl; have e1 := Mine.at M.out 1 _ rfl; have e2 := Mine.at M.out 2 _ rfl; have f0 := Mine.free M.out 0; have f1 := Mine.free M.out 1; have f2 := Mine.free M.out 2; have q0 := Mine.at M.out.drop 0 _ rfl; have q1 := Mine.at M.out.drop 1 _ rfl; have q2 := Mine.at M.out.drop 2 _ rfl; have z0 := Mine.at M.out.drop.drop 0 _ rfl; have z1 := Mine.at M.out.drop.drop 1 _ rfl; have z2 := Mine.at M.out.drop.drop 2 _ rfl; have y0 := Mine.free M.out.drop.drop 0; have y1 := Mine.free M.out.drop.drop 1; have y2 := Mine.free M.out.drop.drop 2; have zl := Mine.lt M.out; have zr := Mine.lt M.out.drop.drop))
          refine bodyPost_ret (v := .tuple #[.agg #[.int .i64 0, .int .i64 0, .int .i64 0], .string ⟨#[]⟩, .bool false]) (by simp [results, Tryd.results39, go_sem, z0, z1, z2, zr]) rfl ⟨by rw [HX.out]; rfl, ?_⟩
          exact ((M.out.low.setCell (p := ⟨_, 0, none⟩) (Nat.le_refl _) _).setCell (p := ⟨_, 1, none⟩) (Nat.le_refl _) _).setCell (p := ⟨_, 2, none⟩) (Nat.le_refl _) _
      | some v =>
        obtain ⟨hv1, hv2⟩ := Rp.canon_some hcn
        have HC := Lib.hid hcn
        clear hcn
        have hat := fun W => atoi_ok p1 hz1 v hv1 W
        obtain ⟨hvb0, hvb1⟩ := Rp.atoi_range hv1
        have hit := fun W hW => itoa_any v W hvb0 hvb1 hW
        have hne : (Lib.itoa v == p1.toList) = true := by rw [Go.ByteArray.toList_eq]; simpa using hv2
        clear hv1 hv2
        go_wp2_with (first | (go_at_call 25; (with_reducible refine (hat _).mono ?_); rintro e w3 ⟨rfl, hb⟩; replace M := Aside.mk (M.out.next hb); clear hb; clear e0 e1 e2 f0 f1 f2 q0 q1 q2 z0 z1 z2 y0 y1 y2 zl zr; have e0 := Mine.at M.out 0 _ rfl; have e1 := Mine.at M.out 1 _ rfl; have e2 := Mine.at M.out 2 _ rfl; have f0 := Mine.free M.out 0; have f1 := Mine.free M.out 1; have f2 := Mine.free M.out 2; have q0 := Mine.at M.out.drop 0 _ rfl; have q1 := Mine.at M.out.drop 1 _ rfl; have q2 := Mine.at M.out.drop 2 _ rfl; have z0 := Mine.at M.out.drop.drop 0 _ rfl; have z1 := Mine.at M.out.drop.drop 1 _ rfl; have z2 := Mine.at M.out.drop.drop 2 _ rfl; have y0 := Mine.free M.out.drop.drop 0; have y1 := Mine.free M.out.drop.drop 1; have y2 := Mine.free M.out.drop.drop 2; have zl := Mine.lt M.out; have zr := Mine.lt M.out.drop.drop) | (go_at_call 31; (with_reducible refine (hit _ (hE.next M.out.low)).mono ?_); rintro e w3 ⟨rfl, hb⟩; replace M := Aside.mk (M.out.next hb); clear hb; clear e0 e1 e2 f0 f1 f2 q0 q1 q2 z0 z1 z2 y0 y1 y2 zl zr; have e0 := Mine.at M.out 0 _ rfl; have e1 := Mine.at M.out 1 _ rfl; have e2 := Mine.at M.out 2 _ rfl; have f0 := Mine.free M.out 0; have f1 := Mine.free M.out 1; have f2 := Mine.free M.out 2; have q0 := Mine.at M.out.drop 0 _ rfl; have q1 := Mine.at M.out.drop 1 _ rfl; have q2 := Mine.at M.out.drop 2 _ rfl; have z0 := Mine.at M.out.drop.drop 0 _ rfl; have z1 := Mine.at M.out.drop.drop 1 _ rfl; have z2 := Mine.at M.out.drop.drop 2 _ rfl; have y0 := Mine.free M.out.drop.drop 0; have y1 := Mine.free M.out.drop.drop 1; have y2 := Mine.free M.out.drop.drop 2; have zl := Mine.lt M.out; have zr := Mine.lt M.out.drop.drop))
        go_roundw
        case rel => exact RdRel.s2 _ d0 v H0.out HC.out (Mine.set M.out (by simp; omega) 1 _)
        case measure => decide
    case s2 d0 d1 h0 h1 M0 =>
      have M := Aside.mk M0
      clear M0
      have H0 := Lib.hid h0
      clear h0
      have H1 := Lib.hid h1
      clear h1
      have e0 := Mine.at M.out 0 _ rfl; have e1 := Mine.at M.out 1 _ rfl; have e2 := Mine.at M.out 2 _ rfl; have f0 := Mine.free M.out 0; have f1 := Mine.free M.out 1; have f2 := Mine.free M.out 2; have q0 := Mine.at M.out.drop 0 _ rfl; have q1 := Mine.at M.out.drop 1 _ rfl; have q2 := Mine.at M.out.drop 2 _ rfl; have z0 := Mine.at M.out.drop.drop 0 _ rfl; have z1 := Mine.at M.out.drop.drop 1 _ rfl; have z2 := Mine.at M.out.drop.drop 2 _ rfl; have y0 := Mine.free M.out.drop.drop 0; have y1 := Mine.free M.out.drop.drop 1; have y2 := Mine.free M.out.drop.drop 2; have zl := Mine.lt M.out; have zr := Mine.lt M.out.drop.drop
      cases hcn : Rp.canon p2.data.toList with
      | none =>
        have HX : Hid (Rp.rdOf code r p0.data.toList p1.data.toList p2.data.toList = (0, 0, 0, [], false)) := Lib.hid (Rp.rdOf_none2 hcn)
        rcases Rp.canon_none hcn with hb0 | ⟨v, hv1, hv2⟩
        · clear hcn
          have hat := fun W hW => atoi_bad p2 hz2 hb0 W hW
          clear hb0
          go_wp2_with (first | (go_at_call 25; (with_reducible refine (hat _ (hE.next M.out.low)).mono ?_); rintro e w3 ⟨nn, NN, rfl, hb⟩; replace M := Aside.mk (M.out.next hb); clear hb; clear e0 e1 e2 f0 f1 f2 q0 q1 q2 z0 z1 z2 y0 y1 y2 zl zr; have e0 := Mine.at M.out 0 _ rfl; have e1 := Mine.at M.out 1 _ rfl; have e2 := Mine.at M.out 2 _ rfl; have f0 := Mine.free M.out 0; have f1 := Mine.free M.out 1; have f2 := Mine.free M.out 2; have q0 := Mine.at M.out.drop 0 _ rfl; have q1 := Mine.at M.out.drop 1 _ rfl; have q2 := Mine.at M.out.drop 2 _ rfl; have z0 := Mine.at M.out.drop.drop 0 _ rfl; have z1 := Mine.at M.out.drop.drop 1 _ rfl; have z2 := Mine.at M.out.drop.drop 2 _ rfl; have y0 := Mine.free M.out.drop.drop 0; have y1 := Mine.free M.out.drop.drop 1; have y2 := Mine.free M.out.drop.drop 2; have zl := Mine.lt M.out; have zr := Mine.lt M.out.drop.drop))
          refine bodyPost_ret (v := .tuple #[.agg #[.int .i64 0, .int .i64 0, .int .i64 0], .string ⟨#[]⟩, .bool false]) (by simp [results, Tryd.results39, go_sem, z0, z1, z2, zr]) rfl ⟨by rw [HX.out]; rfl, ?_⟩
          exact ((M.out.low.setCell (p := ⟨_, 0, none⟩) (Nat.le_refl _) _).setCell (p := ⟨_, 1, none⟩) (Nat.le_refl _) _).setCell (p := ⟨_, 2, none⟩) (Nat.le_refl _) _
        · clear hcn
          have hat := fun W => atoi_ok p2 hz2 v hv1 W
          obtain ⟨hvb0, hvb1⟩ := Rp.atoi_range hv1
          have hit := fun W hW => itoa_any v W hvb0 hvb1 hW
          have hne : (Lib.itoa v == p2.toList) = false := by rw [Go.ByteArray.toList_eq]; simpa using hv2
          clear hv1 hv2
          go_wp2_with (first | (go_at_call 25; (with_reducible refine (hat _).mono ?_); rintro e w3 ⟨rfl, hb⟩; replace M := Aside.mk (M.out.next hb); clear hb; clear e0 e1 e2 f0 f1 f2 q0 q1 q2 z0 z1 z2 y0 y1 y2 zl zr; have e0 := Mine.at M.out 0 _ rfl; have e1 := Mine.at M.out 1 _ rfl; have e2 := Mine.at M.out 2 _ rfl; have f0 := Mine.free M.out 0; have f1 := Mine.free M.out 1; have f2 := Mine.free M.out 2; have q0 := Mine.at M.out.drop 0 _ rfl; have q1 := Mine.at M.out.drop 1 _ rfl; have q2 := Mine.at M.out.drop 2 _ rfl; have z0 := Mine.at M.out.drop.drop 0 _ rfl; have z1 := Mine.at M.out.drop.drop 1 _ rfl; have z2 := Mine.at M.out.drop.drop 2 _ rfl; have y0 := Mine.free M.out.drop.drop 0; have y1 := Mine.free M.out.drop.drop 1; have y2 := Mine.free M.out.drop.drop 2; have zl := Mine.lt M.out; have zr := Mine.lt M.out.drop.drop) | (go_at_call 31; (with_reducible refine (hit _ (hE.next M.out.low)).mono ?_); rintro e w3 ⟨rfl, hb⟩; replace M := Aside.mk (M.out.next hb); clear hb; clear e0 e1 e2 f0 f1 f2 q0 q1 q2 z0 z1 z2 y0 y1 y2 zl zr; have e0 := Mine.at M.out 0 _ rfl; have e1 := Mine.at M.out 1 _ rfl; have e2 := Mine.at M.out 2 _ rfl; have f0 := Mine.free M.out 0; have f1 := Mine.free M.out 1; have f2 := Mine.free M.out 2; have q0 := Mine.at M.out.drop 0 _ rfl; have q1 := Mine.at M.out.drop 1 _ rfl; have q2 := Mine.at M.out.drop 2 _ rfl; have z0 := Mine.at M.out.drop.drop 0 _ rfl; have z1 := Mine.at M.out.drop.drop 1 _ rfl; have z2 := Mine.at M.out.drop.drop 2 _ rfl; have y0 := Mine.free M.out.drop.drop 0; have y1 := Mine.free M.out.drop.drop 1; have y2 := Mine.free M.out.drop.drop 2; have zl := Mine.lt M.out; have zr := Mine.lt M.out.drop.drop))
          refine bodyPost_ret (v := .tuple #[.agg #[.int .i64 0, .int .i64 0, .int .i64 0], .string ⟨#[]⟩, .bool false]) (by simp [results, Tryd.results39, go_sem, z0, z1, z2, zr]) rfl ⟨by rw [HX.out]; rfl, ?_⟩
          exact ((M.out.low.setCell (p := ⟨_, 0, none⟩) (Nat.le_refl _) _).setCell (p := ⟨_, 1, none⟩) (Nat.le_refl _) _).setCell (p := ⟨_, 2, none⟩) (Nat.le_refl _) _
      | some v =>
        obtain ⟨hv1, hv2⟩ := Rp.canon_some hcn
        have HC := Lib.hid hcn
        clear hcn
        have hat := fun W => atoi_ok p2 hz2 v hv1 W
        obtain ⟨hvb0, hvb1⟩ := Rp.atoi_range hv1
        have hit := fun W hW => itoa_any v W hvb0 hvb1 hW
        have hne : (Lib.itoa v == p2.toList) = true := by rw [Go.ByteArray.toList_eq]; simpa using hv2
        clear hv1 hv2
        go_wp2_with (first | (go_at_call 25; (with_reducible refine (hat _).mono ?_); rintro e w3 ⟨rfl, hb⟩; replace M := Aside.mk (M.out.next hb); clear hb; clear e0 e1 e2 f0 f1 f2 q0 q1 q2 z0 z1 z2 y0 y1 y2 zl zr; have e0 := Mine.at M.out 0 _ rfl; have e1 := Mine.at M.out 1 _ rfl; have e2 := Mine.at M.out 2 _ rfl; have f0 := Mine.free M.out 0; have f1 := Mine.free M.out 1; have f2 := Mine.free M.out 2; have q0 := Mine.at M.out.drop 0 _ rfl; have q1 := Mine.at M.out.drop 1 _ rfl; have q2 := Mine.at M.out.drop 2 _ rfl; have z0 := Mine.at M.out.drop.drop 0 _ rfl; have z1 := Mine.at M.out.drop.drop 1 _ rfl; have z2 := Mine.at M.out.drop.drop 2 _ rfl; have y0 := Mine.free M.out.drop.drop 0; have y1 := Mine.free M.out.drop.drop 1; have y2 := Mine.free M.out.drop.drop 2; have zl := Mine.lt M.out; have zr := Mine.lt M.out.drop.drop) | (go_at_call 31; (with_reducible refine (hit _ (hE.next M.out.low)).mono ?_); rintro e w3 ⟨rfl, hb⟩; replace M := Aside.mk (M.out.next hb); clear hb; clear e0 e1 e2 f0 f1 f2 q0 q1 q2 z0 z1 z2 y0 y1 y2 zl zr; have e0 := Mine.at M.out 0 _ rfl; have e1 := Mine.at M.out 1 _ rfl; have e2 := Mine.at M.out 2 _ rfl; have f0 := Mine.free M.out 0; have f1 := Mine.free M.out 1; have f2 := Mine.free M.out 2; have q0 := Mine.at M.out.drop 0 _ rfl; have q1 := Mine.at M.out.drop 1 _ rfl; have q2 := Mine.at M.out.drop 2 _ rfl; have z0 := Mine.at M.out.drop.drop 0 _ rfl; have z1 := Mine.at M.out.drop.drop 1 _ rfl; have z2 := Mine.at M.out.drop.drop 2 _ rfl; have y0 := Mine.free M.out.drop.drop 0; have y1 := Mine.free M.out.drop.drop 1; have y2 := Mine.free M.out.drop.drop 2; have zl := Mine.lt M.out; have zr := Mine.lt M.out.drop.drop))
        go_roundw
        case rel => exact RdRel.s3 _ d0 d1 v H0.out H1.out HC.out (Mine.set M.out (by simp; omega) 2 _)
        case measure => decide
    case s3 d0 d1 d2 h0 h1 h2 M0 =>
      have M := Aside.mk M0
      clear M0
      have H0 := Lib.hid h0
      have H1 := Lib.hid h1
      have H2 := Lib.hid h2
      clear h0 h1 h2
      have e0 := Mine.at M.out 0 _ rfl; have e1 := Mine.at M.out 1 _ rfl; have e2 := Mine.at M.out 2 _ rfl; have f0 := Mine.free M.out 0; have f1 := Mine.free M.out 1; have f2 := Mine.free M.out 2; have q0 := Mine.at M.out.drop 0 _ rfl; have q1 := Mine.at M.out.drop 1 _ rfl; have q2 := Mine.at M.out.drop 2 _ rfl; have z0 := Mine.at M.out.drop.drop 0 _ rfl; have z1 := Mine.at M.out.drop.drop 1 _ rfl; have z2 := Mine.at M.out.drop.drop 2 _ rfl; have y0 := Mine.free M.out.drop.drop 0; have y1 := Mine.free M.out.drop.drop 1; have y2 := Mine.free M.out.drop.drop 2; have zl := Mine.lt M.out; have zr := Mine.lt M.out.drop.drop
      by_cases hz : Rp.none3 d0 d1 d2 = true
      · have HX : Hid (Rp.rdOf code r p0.data.toList p1.data.toList p2.data.toList = (0, 0, 0, [], false)) := Lib.hid (Rp.rdOf_bad H0.out H1.out H2.out (.inl hz))
        have hs3 : same3 d0 d1 d2 0 0 0 = true := hz
        go_wp2_with (first | (go_at_call 36; (with_reducible refine (fits_any _ _ _ _ _).mono ?_); rintro e w3 ⟨rfl, hb⟩; replace M := Aside.mk (M.out.next hb); clear hb; clear e0 e1 e2 f0 f1 f2 q0 q1 q2 z0 z1 z2 y0 y1 y2 zl zr; have e0 := Mine.at M.out 0 _ rfl; have e1 := Mine.at M.out 1 _ rfl; have e2 := Mine.at M.out 2 _ rfl; have f0 := Mine.free M.out 0; have f1 := Mine.free M.out 1; have f2 := Mine.free M.out 2; have q0 := Mine.at M.out.drop 0 _ rfl; have q1 := Mine.at M.out.drop 1 _ rfl; have q2 := Mine.at M.out.drop 2 _ rfl; have z0 := Mine.at M.out.drop.drop 0 _ rfl; have z1 := Mine.at M.out.drop.drop 1 _ rfl; have z2 := Mine.at M.out.drop.drop 2 _ rfl; have y0 := Mine.free M.out.drop.drop 0; have y1 := Mine.free M.out.drop.drop 1; have y2 := Mine.free M.out.drop.drop 2; have zl := Mine.lt M.out; have zr := Mine.lt M.out.drop.drop))
        refine bodyPost_ret (v := .tuple #[.agg #[.int .i64 0, .int .i64 0, .int .i64 0], .string ⟨#[]⟩, .bool false]) (by simp [results, Tryd.results39, go_sem, z0, z1, z2, zr]) rfl ⟨by rw [HX.out]; rfl, ?_⟩
        exact ((M.out.low.setCell (p := ⟨_, 0, none⟩) (Nat.le_refl _) _).setCell (p := ⟨_, 1, none⟩) (Nat.le_refl _) _).setCell (p := ⟨_, 2, none⟩) (Nat.le_refl _) _
      · have hz' : Rp.none3 d0 d1 d2 = false := by simpa using hz
        have hs3 : same3 d0 d1 d2 0 0 0 = false := hz'
        by_cases hf : Rp.fits code d0 d1 d2 = true
        · have HX : Hid (Rp.rdOf code r p0.data.toList p1.data.toList p2.data.toList = (d0, d1, d2, r, true)) := Lib.hid (Rp.rdOf_good H0.out H1.out H2.out hz' hf)
          go_wp2_with (first | (go_at_call 36; (with_reducible refine (fits_any _ _ _ _ _).mono ?_); rintro e w3 ⟨rfl, hb⟩; replace M := Aside.mk (M.out.next hb); clear hb; clear e0 e1 e2 f0 f1 f2 q0 q1 q2 z0 z1 z2 y0 y1 y2 zl zr; have e0 := Mine.at M.out 0 _ rfl; have e1 := Mine.at M.out 1 _ rfl; have e2 := Mine.at M.out 2 _ rfl; have f0 := Mine.free M.out 0; have f1 := Mine.free M.out 1; have f2 := Mine.free M.out 2; have q0 := Mine.at M.out.drop 0 _ rfl; have q1 := Mine.at M.out.drop 1 _ rfl; have q2 := Mine.at M.out.drop 2 _ rfl; have z0 := Mine.at M.out.drop.drop 0 _ rfl; have z1 := Mine.at M.out.drop.drop 1 _ rfl; have z2 := Mine.at M.out.drop.drop 2 _ rfl; have y0 := Mine.free M.out.drop.drop 0; have y1 := Mine.free M.out.drop.drop 1; have y2 := Mine.free M.out.drop.drop 2; have zl := Mine.lt M.out; have zr := Mine.lt M.out.drop.drop))
          refine bodyPost_ret (v := .tuple #[.agg #[.int .i64 d0, .int .i64 d1, .int .i64 d2], .string ⟨r.toArray⟩, .bool true]) (by simp [results, Tryd.results39, go_sem, z0, z1, z2, zr]) rfl ⟨by rw [HX.out]; rfl, ?_⟩
          exact ((M.out.low.setCell (p := ⟨_, 0, none⟩) (Nat.le_refl _) _).setCell (p := ⟨_, 1, none⟩) (Nat.le_refl _) _).setCell (p := ⟨_, 2, none⟩) (Nat.le_refl _) _
        · have hf' : Rp.fits code d0 d1 d2 = false := by simpa using hf
          have HX : Hid (Rp.rdOf code r p0.data.toList p1.data.toList p2.data.toList = (0, 0, 0, [], false)) := Lib.hid (Rp.rdOf_bad H0.out H1.out H2.out (.inr hf'))
          go_wp2_with (first | (go_at_call 36; (with_reducible refine (fits_any _ _ _ _ _).mono ?_); rintro e w3 ⟨rfl, hb⟩; replace M := Aside.mk (M.out.next hb); clear hb; clear e0 e1 e2 f0 f1 f2 q0 q1 q2 z0 z1 z2 y0 y1 y2 zl zr; have e0 := Mine.at M.out 0 _ rfl; have e1 := Mine.at M.out 1 _ rfl; have e2 := Mine.at M.out 2 _ rfl; have f0 := Mine.free M.out 0; have f1 := Mine.free M.out 1; have f2 := Mine.free M.out 2; have q0 := Mine.at M.out.drop 0 _ rfl; have q1 := Mine.at M.out.drop 1 _ rfl; have q2 := Mine.at M.out.drop 2 _ rfl; have z0 := Mine.at M.out.drop.drop 0 _ rfl; have z1 := Mine.at M.out.drop.drop 1 _ rfl; have z2 := Mine.at M.out.drop.drop 2 _ rfl; have y0 := Mine.free M.out.drop.drop 0; have y1 := Mine.free M.out.drop.drop 1; have y2 := Mine.free M.out.drop.drop 2; have zl := Mine.lt M.out; have zr := Mine.lt M.out.drop.drop))
          refine bodyPost_ret (v := .tuple #[.agg #[.int .i64 0, .int .i64 0, .int .i64 0], .string ⟨#[]⟩, .bool false]) (by simp [results, Tryd.results39, go_sem, z0, z1, z2, zr]) rfl ⟨by rw [HX.out]; rfl, ?_⟩
          exact ((M.out.low.setCell (p := ⟨_, 0, none⟩) (Nat.le_refl _) _).setCell (p := ⟨_, 1, none⟩) (Nat.le_refl _) _).setCell (p := ⟨_, 2, none⟩) (Nat.le_refl _) _
end Go.Proofs.YtfeedokfcebjjaaDoor
