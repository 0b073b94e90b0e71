/-
  The answers that the document fixes for judge: what the calls in 'awake' return.
-/
import Derived.Test.YtojmcejkfeaccaaJdMay
import Derived.Test.YtojmcejkfeaccaaJdTime
import Derived.Test.YtojmcejkfeaccaaJdTry1
import Derived.Test.YtojmcejkfeaccaaJdTry2
import Derived.Test.YtojmcejkfeaccaaJdTry4
import Derived.Test.YtojmcejkfeaccaaJdTry6
set_option linter.unusedVariables false
set_option linter.unusedSimpArgs false
namespace Go.Proofs.Ytojmcejkfeaccaa
open Go.RowKit JdLaw
set_option maxRecDepth 100000
def M0 (n : Nat) : JdMsg.Msg := ⟨1, 100, 100, ⟨#[97]⟩, ⟨#[98]⟩, false, false, false, true, false, 0, 0, 0, 50, 0, ⟨#[]⟩, ⟨#[]⟩, ⟨#[]⟩, ⟨#[82]⟩, some ⟨n, 0, none⟩, 1, 1, none, 0, 0⟩
/-- What lies in memory while 'awake' runs; L: blocks of its own. -/
structure AwS (w : World) (L : List (Nat × Array Value × TypeId)) (W : World) : Prop where
  rc : Blk W w.heap.size #[.string ⟨#[99]⟩, .string ⟨#[100]⟩, .string ⟨#[]⟩, .string ⟨#[]⟩, .string ⟨#[]⟩] 38
  msg : Blk W (w.heap.size + 1) (mcs (M0 w.heap.size)) 42
  sta : Blk W (w.heap.size + 1 + 1) #[.int .i64 0, .string ⟨#[82]⟩, .int .i64 0, .int .i64 100, .int .i64 0] 44
  low : Below w.heap.size w W
  own : ∀ x ∈ L, w.heap.size + 1 + 1 < x.1 ∧ Blk W x.1 x.2.1 x.2.2
section
variable {w W W1 : World} {L : List (Nat × Array Value × TypeId)}
theorem AwS.start (w : World) : AwS w [] (((w.alloc (.cells #[.string ⟨#[99]⟩, .string ⟨#[100]⟩, .string ⟨#[]⟩, .string ⟨#[]⟩, .string ⟨#[]⟩] 38)).alloc (.cells (mcs (M0 w.heap.size)) 42)).alloc (.cells #[.int .i64 0, .string ⟨#[82]⟩, .int .i64 0, .int .i64 100, .int .i64 0] 44)) := by
  have b0 := Blk.new (w := w) #[.string ⟨#[99]⟩, .string ⟨#[100]⟩, .string ⟨#[]⟩, .string ⟨#[]⟩, .string ⟨#[]⟩] 38
  have b1 := Blk.new (w := w.alloc (.cells #[.string ⟨#[99]⟩, .string ⟨#[100]⟩, .string ⟨#[]⟩, .string ⟨#[]⟩, .string ⟨#[]⟩] 38)) (mcs (M0 w.heap.size)) 42
  have b2 := Blk.new (w := (w.alloc (.cells #[.string ⟨#[99]⟩, .string ⟨#[100]⟩, .string ⟨#[]⟩, .string ⟨#[]⟩, .string ⟨#[]⟩] 38)).alloc (.cells (mcs (M0 w.heap.size)) 42)) #[.int .i64 0, .string ⟨#[82]⟩, .int .i64 0, .int .i64 100, .int .i64 0] 44
  simp only [World.size_alloc] at b1 b2
  exact ⟨(b0.old _).old _, b1.old _, b2, (((Below.refl _ _).alloc (Nat.le_refl _) _).alloc (by simp) _).alloc (by simp; omega) _, fun x h => by cases h⟩
theorem AwS.next (h : AwS w L W) (hb : Below W.heap.size W W1) : AwS w L W1 := ⟨h.rc.below hb, h.msg.below hb, h.sta.below hb, Below.next h.low hb (Nat.le_refl _), fun x hx => ⟨(h.own x hx).1, (h.own x hx).2.below hb⟩⟩
theorem AwS.drew (h : AwS w L W) : AwS w L W.drew := ⟨h.rc, h.msg, h.sta, ⟨h.low.os, h.low.tape, h.low.output, h.low.size, h.low.block⟩, h.own⟩
theorem AwS.alloc (h : AwS w L W) (o : Obj) : AwS w L (W.alloc o) := h.next ((Below.refl _ _).alloc (Nat.le_refl _) _)
theorem AwS.set (h : AwS w L W) {b : Nat} (hb : (∀ x ∈ L, x.1 ≠ b) ∧ w.heap.size + 1 + 1 < b) (i : Nat) (v : Value) : AwS w L (W.setCell ⟨b, i, none⟩ v) :=
  ⟨h.rc.setOther _ (by have := hb.2; show w.heap.size ≠ b; omega), h.msg.setOther _ (by have := hb.2; show w.heap.size + 1 ≠ b; omega), h.sta.setOther _ (by have := hb.2; show w.heap.size + 1 + 1 ≠ b; omega), h.low.setCell (by have := hb.2; show w.heap.size ≤ b; omega) _, fun x hx => ⟨(h.own x hx).1, (h.own x hx).2.setOther _ (hb.1 x hx)⟩⟩
theorem AwS.set5 (h : AwS w L W) {b : Nat} (hb : (∀ x ∈ L, x.1 ≠ b) ∧ w.heap.size + 1 + 1 < b) (x0 x1 x2 x3 x4 : Value) :
    AwS w L (((((W.setCell ⟨b, 0, none⟩ x0).setCell ⟨b, 1, none⟩ x1).setCell ⟨b, 2, none⟩ x2).setCell ⟨b, 3, none⟩ x3).setCell ⟨b, 4, none⟩ x4) := ((((h.set hb 0 x0).set hb 1 x1).set hb 2 x2).set hb 3 x3).set hb 4 x4
theorem AwS.fresh (h : AwS w L W) : (∀ x ∈ L, x.1 ≠ W.heap.size) ∧ w.heap.size + 1 + 1 < W.heap.size := ⟨fun x hx => Nat.ne_of_lt (h.own x hx).2.lt, h.sta.lt⟩
theorem AwS.newb (h : AwS w L W) : Blk (W.alloc (.cells #[.int .i64 0, .string ⟨#[]⟩, .int .i64 0, .int .i64 0, .int .i64 0] 44)) W.heap.size #[.int .i64 0, .string ⟨#[]⟩, .int .i64 0, .int .i64 0, .int .i64 0] 44 := Blk.new _ _
theorem AwS.add (h : AwS w L W) {b : Nat} {cs : Array Value} {t : TypeId} (hb : w.heap.size + 1 + 1 < b) (hk : Blk W b cs t) : AwS w ((b, cs, t) :: L) W := ⟨h.rc, h.msg, h.sta, h.low, fun x hx => by
  rcases List.mem_cons.1 hx with rfl | hx
  · exact ⟨hb, hk⟩
  · exact h.own x hx⟩
theorem set5_blk {b : Nat} {W : World} {p0 p1 p2 p3 p4 : Value} (h : Blk W b #[p0, p1, p2, p3, p4] 44) (x0 x1 x2 x3 x4 : Value) :
    Blk (((((W.setCell ⟨b, 0, none⟩ x0).setCell ⟨b, 1, none⟩ x1).setCell ⟨b, 2, none⟩ x2).setCell ⟨b, 3, none⟩ x3).setCell ⟨b, 4, none⟩ x4) b #[x0, x1, x2, x3, x4] 44 := by
  have := ((((h.set 0 x0).set 1 x1).set 2 x2).set 3 x3).set 4 x4
  simpa using this
theorem set5_other {b q : Nat} {W : World} {cs : Array Value} {t : TypeId} (h : Blk W q cs t) (hne : q ≠ b) (x0 x1 x2 x3 x4 : Value) :
    Blk (((((W.setCell ⟨b, 0, none⟩ x0).setCell ⟨b, 1, none⟩ x1).setCell ⟨b, 2, none⟩ x2).setCell ⟨b, 3, none⟩ x3).setCell ⟨b, 4, none⟩ x4) q cs t :=
  ((((h.setOther _ hne).setOther _ hne).setOther _ hne).setOther _ hne).setOther _ hne
theorem usual_b (W : World) : Calls Try.prog 8 #[] W fun e w' => e = .returned (.agg #[.int .i64 10, .int .i64 60, .int .i64 500, .int .i64 100]) ∧ Below W.heap.size W w' :=
  (usual_any W).mono fun e w' ⟨h1, h2⟩ => ⟨h1, h2 ▸ (Below.refl _ _).alloc (Nat.le_refl _) _⟩
theorem AwS.nf (h : AwS w L W) : W.cell? ⟨w.heap.size, 0 + 0 * 5 + 2, none⟩ = some (.string ⟨#[]⟩) := h.rc.cell 2 _ rfl
theorem aw_A (h : AwS w L W) : Calls Try.prog 7 #[.agg #[.int .i64 10, .int .i64 60, .int .i64 500, .int .i64 100], .agg (mcs (M0 w.heap.size)), .agg #[.int .i64 0, .string ⟨#[82]⟩, .int .i64 0, .int .i64 100, .int .i64 0], .int .i64 110, .int .i64 4] W fun e w' => e = .returned (.tuple #[.agg #[.int .i64 0, .string ⟨#[82]⟩, .int .i64 1, .int .i64 120, .int .i64 0], .slice none 0 0, .int .i64 0]) ∧ Below W.heap.size W w' := by
  refine (try_w4 10 60 500 100 (M0 w.heap.size) 0 ⟨#[82]⟩ 0 100 0 110 ⟨#[]⟩ w.heap.size 0 W 0 (fun W2 _ => may_ok 10 60 500 100 (M0 w.heap.size) 0 ⟨#[82]⟩ 0 100 0 110 W2 (Lib.hid (by kernel_rfl)) (of_decide_eq_true (by kernel_rfl)) (of_decide_eq_true (by kernel_rfl)) (Lib.hid (by kernel_rfl)) (Lib.hid (by kernel_rfl)) (of_decide_eq_true (by kernel_rfl)) (of_decide_eq_true (by kernel_rfl))) rfl (of_decide_eq_true (by kernel_rfl)) (of_decide_eq_true (by kernel_rfl)) rfl (of_decide_eq_true (by kernel_rfl)) (of_decide_eq_true (by kernel_rfl)) h.nf 10 (of_decide_eq_true (by kernel_rfl)) (of_decide_eq_true (by kernel_rfl)) (fun W2 => ?_) (of_decide_eq_true (by kernel_rfl)) (of_decide_eq_true (by kernel_rfl)) (of_decide_eq_true (by kernel_rfl)) (of_decide_eq_true (by kernel_rfl)) (of_decide_eq_true (by kernel_rfl)) (of_decide_eq_true (by kernel_rfl)) (of_decide_eq_true (by kernel_rfl)) (of_decide_eq_true (by kernel_rfl)) (of_decide_eq_true (by kernel_rfl)) (of_decide_eq_true (by kernel_rfl)) ⟨#[82]⟩ 0 none (Lib.hid (by kernel_rfl))).mono ?_
  · refine (wait_any 10 60 500 100 1 W2 (of_decide_eq_true (by kernel_rfl)) (of_decide_eq_true (by kernel_rfl)) (of_decide_eq_true (by kernel_rfl)) (of_decide_eq_true (by kernel_rfl))).mono ?_
    rintro e w' ⟨rfl, rfl⟩
    exact ⟨by kernel_rfl, (Below.refl _ _).alloc (Nat.le_refl _) _⟩
  · rintro e w' ⟨v, rfl, hrow, hb⟩
    obtain rfl : v = .slice none 0 0 := hrow
    exact ⟨rfl, hb⟩
theorem aw_B (h : AwS w L W) : Calls Try.prog 9 #[.agg #[.int .i64 10, .int .i64 60, .int .i64 500, .int .i64 100], .agg (mcs (M0 w.heap.size)), .agg #[.int .i64 0, .string ⟨#[82]⟩, .int .i64 1, .int .i64 120, .int .i64 0], .int .i64 150] W fun e w' => ∃ q, e = .returned (.tuple #[.agg #[.int .i64 0, .string ⟨#[70]⟩, .int .i64 1, .int .i64 120, .int .i64 2], .slice (some ⟨q, 0, none⟩) 1 1, .int .i64 0]) ∧ W.heap.size ≤ q ∧ Blk w' q #[.string ⟨#[102, 97, 105, 108, 101, 100]⟩] 9 ∧ Below W.heap.size W w' := by
  refine (time_ok 10 60 500 100 (M0 w.heap.size) 0 ⟨#[82]⟩ 1 120 0 150 ⟨#[]⟩ w.heap.size 0 W 0 (fun W2 _ => may_ok 10 60 500 100 (M0 w.heap.size) 0 ⟨#[82]⟩ 1 120 0 150 W2 (Lib.hid (by kernel_rfl)) (of_decide_eq_true (by kernel_rfl)) (of_decide_eq_true (by kernel_rfl)) (Lib.hid (by kernel_rfl)) (Lib.hid (by kernel_rfl)) (of_decide_eq_true (by kernel_rfl)) (of_decide_eq_true (by kernel_rfl))) rfl rfl (of_decide_eq_true (by kernel_rfl)) (of_decide_eq_true (by kernel_rfl)) h.nf (of_decide_eq_true (by kernel_rfl)) (of_decide_eq_true (by kernel_rfl)) (of_decide_eq_true (by kernel_rfl)) (of_decide_eq_true (by kernel_rfl)) (of_decide_eq_true (by kernel_rfl)) (of_decide_eq_true (by kernel_rfl)) (of_decide_eq_true (by kernel_rfl)) (of_decide_eq_true (by kernel_rfl)) (of_decide_eq_true (by kernel_rfl)) (of_decide_eq_true (by kernel_rfl)) ⟨#[70]⟩ 2 (some ⟨#[102, 97, 105, 108, 101, 100]⟩) (Lib.hid (by kernel_rfl))).mono ?_
  rintro e w' ⟨v, rfl, hrow, hb⟩
  obtain ⟨q, rfl, hq, hk⟩ := hrow
  exact ⟨q, rfl, hq, hk, hb⟩
theorem aw_C (h : AwS w L W) : Calls Try.prog 7 #[.agg #[.int .i64 10, .int .i64 60, .int .i64 500, .int .i64 100], .agg (mcs (M0 w.heap.size)), .agg #[.int .i64 0, .string ⟨#[82]⟩, .int .i64 0, .int .i64 100, .int .i64 0], .int .i64 110, .int .i64 2] W fun e w' => e = .returned (.tuple #[.agg #[.int .i64 0, .string ⟨#[68]⟩, .int .i64 1, .int .i64 100, .int .i64 0], .slice none 0 0, .int .i64 0]) ∧ Below W.heap.size W w' := by
  refine (try_e2 10 60 500 100 (M0 w.heap.size) 0 ⟨#[82]⟩ 0 100 0 110 ⟨#[]⟩ w.heap.size 0 W 0 (fun W2 _ => may_ok 10 60 500 100 (M0 w.heap.size) 0 ⟨#[82]⟩ 0 100 0 110 W2 (Lib.hid (by kernel_rfl)) (of_decide_eq_true (by kernel_rfl)) (of_decide_eq_true (by kernel_rfl)) (Lib.hid (by kernel_rfl)) (Lib.hid (by kernel_rfl)) (of_decide_eq_true (by kernel_rfl)) (of_decide_eq_true (by kernel_rfl))) rfl (of_decide_eq_true (by kernel_rfl)) (of_decide_eq_true (by kernel_rfl)) rfl (of_decide_eq_true (by kernel_rfl)) (of_decide_eq_true (by kernel_rfl)) h.nf none 0 (Lib.hid (by kernel_rfl)) (Lib.hid (by kernel_rfl))).mono ?_
  rintro e w' ⟨v, rfl, hrow, hb⟩
  obtain rfl : v = .slice none 0 0 := hrow
  exact ⟨rfl, hb⟩
theorem aw_D (W : World) : Calls Try.prog 9 #[.agg #[.int .i64 10, .int .i64 60, .int .i64 500, .int .i64 100], .agg (mcs (M0 w.heap.size)), .agg #[.int .i64 0, .string ⟨#[70]⟩, .int .i64 1, .int .i64 120, .int .i64 2], .int .i64 150] W fun e w' => e = .returned (.tuple #[.agg #[.int .i64 0, .string ⟨#[]⟩, .int .i64 0, .int .i64 0, .int .i64 0], .slice none 0 0, .int .i64 9]) ∧ Below W.heap.size W w' :=
  time_bad 10 60 500 100 (M0 w.heap.size) 0 ⟨#[70]⟩ 1 120 2 150 W 9 (fun W2 _ => may_state 10 60 500 100 (M0 w.heap.size) 0 ⟨#[70]⟩ 1 120 2 150 W2 (Lib.hid (by kernel_rfl)) (of_decide_eq_true (by kernel_rfl)) (of_decide_eq_true (by kernel_rfl)) (by kernel_rfl) (by kernel_rfl)) (Lib.hid (by kernel_rfl)) (Lib.hid (by kernel_rfl))
theorem aw_E (h : AwS w L W) : Calls Try.prog 7 #[.agg #[.int .i64 10, .int .i64 60, .int .i64 500, .int .i64 100], .agg (mcs (M0 w.heap.size)), .agg #[.int .i64 0, .string ⟨#[82]⟩, .int .i64 0, .int .i64 100, .int .i64 0], .int .i64 110, .int .i64 1] W fun e w' => e = .returned (.tuple #[.agg #[.int .i64 0, .string ⟨#[]⟩, .int .i64 0, .int .i64 0, .int .i64 0], .slice none 0 0, .int .i64 10]) ∧ Below W.heap.size W w' :=
  try_kind 10 60 500 100 (M0 w.heap.size) 0 ⟨#[82]⟩ 0 100 0 110 ⟨#[]⟩ w.heap.size 0 W 0 (fun W2 _ => may_ok 10 60 500 100 (M0 w.heap.size) 0 ⟨#[82]⟩ 0 100 0 110 W2 (Lib.hid (by kernel_rfl)) (of_decide_eq_true (by kernel_rfl)) (of_decide_eq_true (by kernel_rfl)) (Lib.hid (by kernel_rfl)) (Lib.hid (by kernel_rfl)) (of_decide_eq_true (by kernel_rfl)) (of_decide_eq_true (by kernel_rfl))) 1 rfl (of_decide_eq_true (by kernel_rfl)) (of_decide_eq_true (by kernel_rfl)) rfl rfl rfl rfl rfl
theorem aw_F (W : World) : Calls Try.prog 9 #[.agg #[.int .i64 0, .int .i64 0, .int .i64 0, .int .i64 0], .agg (mcs (M0 w.heap.size)), .agg #[.int .i64 0, .string ⟨#[82]⟩, .int .i64 0, .int .i64 100, .int .i64 0], .int .i64 110] W fun e w' => e = .returned (.tuple #[.agg #[.int .i64 0, .string ⟨#[]⟩, .int .i64 0, .int .i64 0, .int .i64 0], .slice none 0 0, .int .i64 1]) ∧ Below W.heap.size W w' :=
  time_bad 0 0 0 0 (M0 w.heap.size) 0 ⟨#[82]⟩ 0 100 0 110 W 1 (fun W2 _ => may_range 0 0 0 0 (M0 w.heap.size) 0 ⟨#[82]⟩ 0 100 0 110 W2 (Lib.hid (by kernel_rfl))) (Lib.hid (by kernel_rfl)) (Lib.hid (by kernel_rfl))
theorem aw_dl (n : Nat) (W : World) : Calls Try.prog 10 #[.agg (mcs (M0 n))] W fun e w' => e = .returned (.tuple #[.int .i64 150, .bool true]) ∧ Below W.heap.size W w' :=
  (deadline_m (M0 n) W (of_decide_eq_true (by kernel_rfl)) (of_decide_eq_true (by kernel_rfl)) (of_decide_eq_true (by kernel_rfl)) (of_decide_eq_true (by kernel_rfl))).mono fun e w' ⟨h1, h2⟩ => ⟨h1.trans (by kernel_rfl), h2⟩
theorem aw_wt (W : World) : Calls Try.prog 6 #[.agg #[.int .i64 10, .int .i64 60, .int .i64 500, .int .i64 100], .int .i64 4] W fun e w' => e = .returned (.int .i64 60) ∧ Below W.heap.size W w' :=
  (wait_any 10 60 500 100 4 W (by decide) (by decide) (by decide) (by decide)).mono fun e w' ⟨h1, h2⟩ => ⟨h1.trans (by kernel_rfl), h2 ▸ (Below.refl _ _).alloc (Nat.le_refl _) _⟩
theorem aw_ex (n : Nat) (W : World) : Calls Try.prog 12 #[.agg #[.int .i64 10, .int .i64 60, .int .i64 500, .int .i64 100], .agg (mcs (M0 n))] W fun e w' => e = .returned (.int .i64 600) ∧ Below W.heap.size W w' :=
  (expires_m 10 60 500 100 (M0 n) W (of_decide_eq_true (by kernel_rfl)) (of_decide_eq_true (by kernel_rfl)) (of_decide_eq_true (by kernel_rfl)) (of_decide_eq_true (by kernel_rfl))).mono fun e w' ⟨h1, h2⟩ => ⟨h1.trans (by kernel_rfl), h2⟩
theorem aw_al (n : Nat) (W : World) : Calls Try.prog 13 #[.agg #[.int .i64 10, .int .i64 60, .int .i64 500, .int .i64 100], .agg (mcs (M0 n)), .agg #[.int .i64 0, .string ⟨#[82]⟩, .int .i64 1, .int .i64 120, .int .i64 0]] W fun e w' => e = .returned (.int .i64 120) ∧ Below W.heap.size W w' :=
  (alarm_to 10 60 500 100 (M0 n) 0 ⟨#[82]⟩ 1 120 0 W (of_decide_eq_true (by kernel_rfl)) (of_decide_eq_true (by kernel_rfl)) (of_decide_eq_true (by kernel_rfl)) (of_decide_eq_true (by kernel_rfl)) (of_decide_eq_true (by kernel_rfl)) (of_decide_eq_true (by kernel_rfl)) (of_decide_eq_true (by kernel_rfl)) (of_decide_eq_true (by kernel_rfl)) (Lib.hid (by kernel_rfl)) (Lib.hid (by kernel_rfl)) (Lib.hid (by kernel_rfl)) (Lib.hid (by kernel_rfl))).mono fun e w' ⟨h1, h2⟩ => ⟨h1.trans (by kernel_rfl), h2⟩
theorem aw_rt (W : World) : Calls Try.prog 5 #[.agg #[.int .i64 10, .int .i64 60, .int .i64 500, .int .i64 100]] W fun e w' => e = .returned (.int .i64 0) ∧ Below W.heap.size W w' :=
  (right_any 10 60 500 100 W).mono fun e w' ⟨h1, h2⟩ => ⟨h1.trans (by kernel_rfl), h2⟩
end
end Go.Proofs.Ytojmcejkfeaccaa
