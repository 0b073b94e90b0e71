/-
  Walks of the package reply: strip.
-/
import Derived.Test.YtfeedokfcebjjaaDoorRpReadA
import Derived.Test.YtfeedokfcebjjaaDoorApp
import Derived.Outline
set_option linter.unusedVariables false
set_option linter.unusedSimpArgs false
namespace Go.Proofs.YtfeedokfcebjjaaDoor
open Go.RowKit
set_option maxRecDepth 100000
attribute [local go_sem] equal3
theorem Blk.low {w w1 : World} {b : Nat} {cs : Array Value} {t : TypeId} (h : Blk w b cs t) (hb : Below w.heap.size w w1) : Blk w1 b cs t := h.below hb
/-- What strip leaves: block b alone has changed; the enhanced code is off each text, if all have the same. -/
def Stripped (b : Nat) (code : Int) (t : List ByteArray) (A : Option Addr) (cp : Nat) (w w' : World) : Prop :=
  Chg (fun k => k = b) w w' ∧
  ((t.all (Rp.good code (Rp.fst3 code t)) = true ∧ ∃ A' cp', Blk w' b #[.int .i64 code, .int .i64 (Rp.fst3 code t).1, .int .i64 (Rp.fst3 code t).2.1, .int .i64 (Rp.fst3 code t).2.2, .slice A' t.length cp'] 25 ∧ Strs w' A' (t.map (Rp.behind code))) ∨
    (t.all (Rp.good code (Rp.fst3 code t)) = false ∧ Blk w' b #[.int .i64 code, .int .i64 0, .int .i64 0, .int .i64 0, .slice A t.length cp] 25))
theorem all_not {α : Type} {p : α → Bool} {l : List α} {x : α} (hx : x ∈ l) (h : p x = false) : l.all p = false := by
  cases hl : l.all p with
  | false => rfl
  | true => rw [List.all_eq_true.1 hl x hx] at h; cases h
theorem stripped_no {b : Nat} {code : Int} {t : List ByteArray} {A : Option Addr} {cp : Nat} {w w' : World} (hB : Blk w b #[.int .i64 code, .int .i64 0, .int .i64 0, .int .i64 0, .slice A t.length cp] 25) (h : t.all (Rp.good code (Rp.fst3 code t)) = false) (hb : Below w.heap.size w w') : Stripped b code t A cp w w' :=
  ⟨Chg.ofBelow hb _, .inr ⟨h, hB.below hb⟩⟩
/-- Between two rounds of strip. -/
def StRel (b : Nat) (code : Int) (t : List ByteArray) (w : World) (v i : Value) (wr : World) : Prop :=
  ∃ k : Nat, k ≤ t.length ∧ i = .int .i64 k ∧ (t.take k).all (Rp.good code (Rp.fst3 code t)) = true ∧ Row wr w.heap.size v ((t.take k).map (Rp.behind code)) ∧
    Mine w [(w.heap.size, (if k = 0 then #[.int .i64 0, .int .i64 0, .int .i64 0] else #[.int .i64 (Rp.fst3 code t).1, .int .i64 (Rp.fst3 code t).2.1, .int .i64 (Rp.fst3 code t).2.2]), 23)] wr
set_option maxHeartbeats 8000000 in
theorem strip_any (b : Nat) (code : Int) (t : List ByteArray) (A : Option Addr) (cp : Nat) (w : World) (hE : Env w) (hB : Blk w b #[.int .i64 code, .int .i64 0, .int .i64 0, .int .i64 0, .slice A t.length cp] 25) (hS : Strs w A t) (hs : ∀ s ∈ t, s.size < 4294967281) (ht : t.length ≤ 1000000) (hn : 1 ≤ t.length) :
    Calls Tryd.prog 27 #[.pointer (some ⟨b, 0, none⟩)] w fun e w' => (∃ v, e = .returned v) ∧ Stripped b code t A cp w w' := by
  have HB := Aside.mk hB
  have HS := Aside.mk hS
  have Hs := Aside.mk hs
  have hbl := hB.lt
  clear hB hS hs
  go_enter Tryd.func27, Tryd.ntmps27
  have b4 := HB.out.cell 4 _ rfl
  go_wp2
  clear b4
  go_loopw [2, 14] (fun v i wr => StRel b code t w v i wr) (fun _ i _ => t.length - (intOf i).toNat)
  case atStart => exact ⟨0, by omega, rfl, rfl, Row.nil _ _, (Mine.start w).alloc _ _⟩
  case round =>
    obtain ⟨k, hk, rfl, hall, hrow, hmine⟩ := hrel
    have HA := Lib.hid hall
    have R := Aside.mk hrow
    clear hall hrow
    by_cases hlt : k < t.length
    · have HT := Lib.hid (List.take_succ_eq_append_getElem (l := t) (i := k) hlt)
      obtain ⟨bb, oo, rfl, hbl2, hcell⟩ := (HS.out.next hmine.low).at k hlt
      have hsz := Hs.out t[k] (List.getElem_mem _)
      have hmem := Aside.mk (List.getElem_mem hlt)
      have hf0 : k = 0 → Rp.fst3 code t = ((Rp.rd code (t[k]).data.toList).1, (Rp.rd code (t[k]).data.toList).2.1, (Rp.rd code (t[k]).data.toList).2.2.1) := fun e => by
        subst e
        cases t with
        | nil => simp at hlt
        | cons s r => rfl
      generalize t[k] = s at hcell HT hsz hmem hf0
      have hrd0 := fun W hW => read_any code s W hW hsz
      have hgood : Rp.good code (Rp.fst3 code t) s = ((Rp.rd code s.data.toList).2.2.2.2 && decide ((Rp.rd code s.data.toList).1 = (Rp.fst3 code t).1 ∧ (Rp.rd code s.data.toList).2.1 = (Rp.fst3 code t).2.1 ∧ (Rp.rd code s.data.toList).2.2.1 = (Rp.fst3 code t).2.2)) := rfl
      have hbeh : Rp.behind code s = ⟨(Rp.rd code s.data.toList).2.2.2.1.toArray⟩ := rfl
      generalize Rp.rd code s.data.toList = x at hrd0 hgood hbeh hf0
      obtain ⟨a, b', c, r, ok⟩ := x
      simp only at hgood hbeh hf0
      have hrd : ∀ W, Env W → Calls Tryd.prog 39 #[.int .i64 code, .string s] W fun e w' => e = .returned (.tuple #[.agg #[.int .i64 a, .int .i64 b', .int .i64 c], .string ⟨r.toArray⟩, .bool ok]) ∧ Below W.heap.size W w' := hrd0
      have HG := Lib.hid hgood
      have HBe := Lib.hid hbeh
      have HF := Lib.hid hf0
      clear hrd0 hgood hbeh hf0
      rcases Nat.eq_zero_or_pos k with rfl | hpos
      · have hf := HF.out rfl
        have M := Aside.mk hmine
        simp only [if_true] at M
        simp only [Nat.add_zero] at hcell
        simp only [List.take_zero, List.map_nil] at R
        clear hmine
        have hss : same3 a b' c a b' c = true := decide_eq_true ⟨rfl, rfl, rfl⟩
        have z0 := Mine.at M.out 0 _ rfl; have z1 := Mine.at M.out 1 _ rfl; have z2 := Mine.at M.out 2 _ rfl; have y0 := Mine.free M.out 0; have y1 := Mine.free M.out 1; have y2 := Mine.free M.out 2; have zl := Mine.lt M.out; have b0 := Blk.cell (Blk.low HB.out M.out.low) 0 _ rfl; have b1 := Blk.cell (Blk.low HB.out M.out.low) 1 _ rfl; have b2 := Blk.cell (Blk.low HB.out M.out.low) 2 _ rfl; have b3 := Blk.cell (Blk.low HB.out M.out.low) 3 _ rfl; have b4 := Blk.cell (Blk.low HB.out M.out.low) 4 _ rfl; have g0 := Blk.free (Blk.low HB.out M.out.low) 0; have g1 := Blk.free (Blk.low HB.out M.out.low) 1; have g2 := Blk.free (Blk.low HB.out M.out.low) 2; have g3 := Blk.free (Blk.low HB.out M.out.low) 3; have g4 := Blk.free (Blk.low HB.out M.out.low) 4
        cases ok with
        | false =>
          have HX : Hid (t.all (Rp.good code (Rp.fst3 code t)) = false) := Lib.hid (all_not hmem.out (by rw [HG.out]; rfl))
          go_wp2_with (first | (go_at_call 39; (with_reducible refine (hrd _ (hE.next M.out.low)).mono ?_); rintro e w1 ⟨rfl, hb⟩; have R1 := Aside.mk (R.out.next hb); clear R; replace M := Aside.mk (M.out.next hb); clear hb; clear z0 z1 z2 y0 y1 y2 zl b0 b1 b2 b3 b4 g0 g1 g2 g3 g4; have z0 := Mine.at M.out 0 _ rfl; have z1 := Mine.at M.out 1 _ rfl; have z2 := Mine.at M.out 2 _ rfl; have y0 := Mine.free M.out 0; have y1 := Mine.free M.out 1; have y2 := Mine.free M.out 2; have zl := Mine.lt M.out; have b0 := Blk.cell (Blk.low HB.out M.out.low) 0 _ rfl; have b1 := Blk.cell (Blk.low HB.out M.out.low) 1 _ rfl; have b2 := Blk.cell (Blk.low HB.out M.out.low) 2 _ rfl; have b3 := Blk.cell (Blk.low HB.out M.out.low) 3 _ rfl; have b4 := Blk.cell (Blk.low HB.out M.out.low) 4 _ rfl; have g0 := Blk.free (Blk.low HB.out M.out.low) 0; have g1 := Blk.free (Blk.low HB.out M.out.low) 1; have g2 := Blk.free (Blk.low HB.out M.out.low) 2; have g3 := Blk.free (Blk.low HB.out M.out.low) 3; have g4 := Blk.free (Blk.low HB.out M.out.low) 4))
          refine bodyPost_ret (results_none rfl _ _ _) rfl ⟨⟨_, rfl⟩, ?_⟩
          exact stripped_no HB.out HX.out ((((M.out.low.setCell (p := ⟨_, 0, none⟩) (Nat.le_refl _) _).setCell (p := ⟨_, 1, none⟩) (Nat.le_refl _) _).setCell (p := ⟨_, 2, none⟩) (Nat.le_refl _) _).alloc (by simp; omega) _)
        | true =>
          have HY : Hid (Rp.good code (Rp.fst3 code t) s = true) := Lib.hid (by rw [HG.out, hf]; simp)
          have HFf := Lib.hid hf
          clear hf
          go_wp2_with (first | (go_at_call 39; (with_reducible refine (hrd _ (hE.next M.out.low)).mono ?_); rintro e w1 ⟨rfl, hb⟩; have R1 := Aside.mk (R.out.next hb); clear R; replace M := Aside.mk (M.out.next hb); clear hb; clear z0 z1 z2 y0 y1 y2 zl b0 b1 b2 b3 b4 g0 g1 g2 g3 g4; have z0 := Mine.at M.out 0 _ rfl; have z1 := Mine.at M.out 1 _ rfl; have z2 := Mine.at M.out 2 _ rfl; have y0 := Mine.free M.out 0; have y1 := Mine.free M.out 1; have y2 := Mine.free M.out 2; have zl := Mine.lt M.out; have b0 := Blk.cell (Blk.low HB.out M.out.low) 0 _ rfl; have b1 := Blk.cell (Blk.low HB.out M.out.low) 1 _ rfl; have b2 := Blk.cell (Blk.low HB.out M.out.low) 2 _ rfl; have b3 := Blk.cell (Blk.low HB.out M.out.low) 3 _ rfl; have b4 := Blk.cell (Blk.low HB.out M.out.low) 4 _ rfl; have g0 := Blk.free (Blk.low HB.out M.out.low) 0; have g1 := Blk.free (Blk.low HB.out M.out.low) 1; have g2 := Blk.free (Blk.low HB.out M.out.low) 2; have g3 := Blk.free (Blk.low HB.out M.out.low) 3; have g4 := Blk.free (Blk.low HB.out M.out.low) 4) | (at_builtin; have hne0 := Row.ne R1.out (M.out.own _ (List.mem_cons_self ..)).2 (show 23 ≠ 9 by decide); have R5 := Aside.mk ((((((R1.out.setOther (a := ⟨w.heap.size, 0, none⟩) hne0 (.int .i64 a)).setOther (a := ⟨w.heap.size, 1, none⟩) hne0 (.int .i64 b')).setOther (a := ⟨w.heap.size, 2, none⟩) hne0 (.int .i64 c)).alloc (.cells #[.int .i64 a, .int .i64 b', .int .i64 c] 23)).alloc (.cells #[.string ⟨r.toArray⟩] 9))); have M5 := Aside.mk (((((M.out.set (by simp) 0 (.int .i64 a)).set (by simp) 1 (.int .i64 b')).set (by simp) 2 (.int .i64 c)).allocO (.cells #[.int .i64 a, .int .i64 b', .int .i64 c] 23)).allocO (.cells #[.string ⟨r.toArray⟩] 9)); clear hne0 R1 M z0 z1 z2 y0 y1 y2 zl b0 b1 b2 b3 b4 g0 g1 g2 g3 g4; refine app_str rfl _ _ rfl w.heap.size _ [] (by rfl) R5.out _ (by rfl) ⟨r.toArray⟩ (by have := heap_alloc_new ((((w1.setCell ⟨w.heap.size, 0, none⟩ (.int .i64 a)).setCell ⟨w.heap.size, 1, none⟩ (.int .i64 b')).setCell ⟨w.heap.size, 2, none⟩ (.int .i64 c)).alloc (.cells #[.int .i64 a, .int .i64 b', .int .i64 c] 23)) (.cells #[.string ⟨r.toArray⟩] 9); simpa using this) (by simp) (M5.out.low.size) ?_; intro g cap w4 hrow4 hgrow4 _ _; have R6 := Aside.mk hrow4; have M6 := Aside.mk (M5.out.app R5.out hgrow4 (by simp)); clear hrow4 hgrow4 M5 R5))
          go_roundw
          case rel => exact ⟨1, by omega, rfl, by rw [HT.out]; simp [HY.out], by rw [HT.out]; simpa [HBe.out] using R6.out, by rw [if_neg (by omega), HFf.out]; simpa using M6.out⟩
          case measure => simp [intOf]; omega
      · have hk0 : ¬ k = 0 := by omega
        have M := Aside.mk hmine
        simp only [hk0, if_false] at M
        clear hmine HF
        generalize hfst : Rp.fst3 code t = f at *
        obtain ⟨f1, f2, f3⟩ := f
        have HFf := Lib.hid hfst
        clear hfst
        simp only at M HG
        have hkb : ((k : Int) == 0) = false := by simpa using hk0
        have z0 := Mine.at M.out 0 _ rfl; have z1 := Mine.at M.out 1 _ rfl; have z2 := Mine.at M.out 2 _ rfl; have y0 := Mine.free M.out 0; have y1 := Mine.free M.out 1; have y2 := Mine.free M.out 2; have zl := Mine.lt M.out; have b0 := Blk.cell (Blk.low HB.out M.out.low) 0 _ rfl; have b1 := Blk.cell (Blk.low HB.out M.out.low) 1 _ rfl; have b2 := Blk.cell (Blk.low HB.out M.out.low) 2 _ rfl; have b3 := Blk.cell (Blk.low HB.out M.out.low) 3 _ rfl; have b4 := Blk.cell (Blk.low HB.out M.out.low) 4 _ rfl; have g0 := Blk.free (Blk.low HB.out M.out.low) 0; have g1 := Blk.free (Blk.low HB.out M.out.low) 1; have g2 := Blk.free (Blk.low HB.out M.out.low) 2; have g3 := Blk.free (Blk.low HB.out M.out.low) 3; have g4 := Blk.free (Blk.low HB.out M.out.low) 4
        cases ok with
        | false =>
          have HX : Hid (t.all (Rp.good code (f1, f2, f3)) = false) := Lib.hid (all_not hmem.out (by rw [HG.out]; rfl))
          go_wp2_with (first | (go_at_call 39; (with_reducible refine (hrd _ (hE.next M.out.low)).mono ?_); rintro e w1 ⟨rfl, hb⟩; have R1 := Aside.mk (R.out.next hb); clear R; replace M := Aside.mk (M.out.next hb); clear hb; clear z0 z1 z2 y0 y1 y2 zl b0 b1 b2 b3 b4 g0 g1 g2 g3 g4; have z0 := Mine.at M.out 0 _ rfl; have z1 := Mine.at M.out 1 _ rfl; have z2 := Mine.at M.out 2 _ rfl; have y0 := Mine.free M.out 0; have y1 := Mine.free M.out 1; have y2 := Mine.free M.out 2; have zl := Mine.lt M.out; have b0 := Blk.cell (Blk.low HB.out M.out.low) 0 _ rfl; have b1 := Blk.cell (Blk.low HB.out M.out.low) 1 _ rfl; have b2 := Blk.cell (Blk.low HB.out M.out.low) 2 _ rfl; have b3 := Blk.cell (Blk.low HB.out M.out.low) 3 _ rfl; have b4 := Blk.cell (Blk.low HB.out M.out.low) 4 _ rfl; have g0 := Blk.free (Blk.low HB.out M.out.low) 0; have g1 := Blk.free (Blk.low HB.out M.out.low) 1; have g2 := Blk.free (Blk.low HB.out M.out.low) 2; have g3 := Blk.free (Blk.low HB.out M.out.low) 3; have g4 := Blk.free (Blk.low HB.out M.out.low) 4))
          refine bodyPost_ret (results_none rfl _ _ _) rfl ⟨⟨_, rfl⟩, ?_⟩
          exact stripped_no HB.out (by rw [HFf.out]; exact HX.out) (M.out.low.alloc (Nat.le_of_lt zl) _)
        | true =>
          by_cases hsm : same3 a b' c f1 f2 f3 = true
          · have HY : Hid (Rp.good code (f1, f2, f3) s = true) := Lib.hid (by rw [HG.out]; exact hsm)
            go_wp2_with (first | (go_at_call 39; (with_reducible refine (hrd _ (hE.next M.out.low)).mono ?_); rintro e w1 ⟨rfl, hb⟩; have R1 := Aside.mk (R.out.next hb); clear R; replace M := Aside.mk (M.out.next hb); clear hb; clear z0 z1 z2 y0 y1 y2 zl b0 b1 b2 b3 b4 g0 g1 g2 g3 g4; have z0 := Mine.at M.out 0 _ rfl; have z1 := Mine.at M.out 1 _ rfl; have z2 := Mine.at M.out 2 _ rfl; have y0 := Mine.free M.out 0; have y1 := Mine.free M.out 1; have y2 := Mine.free M.out 2; have zl := Mine.lt M.out; have b0 := Blk.cell (Blk.low HB.out M.out.low) 0 _ rfl; have b1 := Blk.cell (Blk.low HB.out M.out.low) 1 _ rfl; have b2 := Blk.cell (Blk.low HB.out M.out.low) 2 _ rfl; have b3 := Blk.cell (Blk.low HB.out M.out.low) 3 _ rfl; have b4 := Blk.cell (Blk.low HB.out M.out.low) 4 _ rfl; have g0 := Blk.free (Blk.low HB.out M.out.low) 0; have g1 := Blk.free (Blk.low HB.out M.out.low) 1; have g2 := Blk.free (Blk.low HB.out M.out.low) 2; have g3 := Blk.free (Blk.low HB.out M.out.low) 3; have g4 := Blk.free (Blk.low HB.out M.out.low) 4) | (at_builtin; have R5 := Aside.mk ((R1.out.alloc (.cells #[.int .i64 a, .int .i64 b', .int .i64 c] 23)).alloc (.cells #[.string ⟨r.toArray⟩] 9)); have M5 := Aside.mk ((M.out.allocO (.cells #[.int .i64 a, .int .i64 b', .int .i64 c] 23)).allocO (.cells #[.string ⟨r.toArray⟩] 9)); clear R1 M z0 z1 z2 y0 y1 y2 zl b0 b1 b2 b3 b4 g0 g1 g2 g3 g4; refine app_str rfl _ _ rfl w.heap.size _ _ (by rfl) R5.out _ (by rfl) ⟨r.toArray⟩ (by have := heap_alloc_new (w1.alloc (.cells #[.int .i64 a, .int .i64 b', .int .i64 c] 23)) (.cells #[.string ⟨r.toArray⟩] 9); simpa using this) (by simp; omega) (M5.out.low.size) ?_; intro g cap w4 hrow4 hgrow4 _ _; have R6 := Aside.mk hrow4; have M6 := Aside.mk (M5.out.app R5.out hgrow4 (by simp)); clear hrow4 hgrow4 M5 R5))
            go_roundw
            case rel => exact ⟨k + 1, by omega, by go_num, by rw [HT.out, List.all_append, HFf.out, HA.out]; simp [HY.out], by rw [HT.out]; simpa [HBe.out, show min k t.length = k by omega] using R6.out, by rw [if_neg (by omega), HFf.out]; exact M6.out⟩
            case measure => simp [intOf]; omega
          · have hsm' : same3 a b' c f1 f2 f3 = false := by simpa using hsm
            have HX : Hid (t.all (Rp.good code (f1, f2, f3)) = false) := Lib.hid (all_not hmem.out (by rw [HG.out]; exact hsm'))
            go_wp2_with (first | (go_at_call 39; (with_reducible refine (hrd _ (hE.next M.out.low)).mono ?_); rintro e w1 ⟨rfl, hb⟩; have R1 := Aside.mk (R.out.next hb); clear R; replace M := Aside.mk (M.out.next hb); clear hb; clear z0 z1 z2 y0 y1 y2 zl b0 b1 b2 b3 b4 g0 g1 g2 g3 g4; have z0 := Mine.at M.out 0 _ rfl; have z1 := Mine.at M.out 1 _ rfl; have z2 := Mine.at M.out 2 _ rfl; have y0 := Mine.free M.out 0; have y1 := Mine.free M.out 1; have y2 := Mine.free M.out 2; have zl := Mine.lt M.out; have b0 := Blk.cell (Blk.low HB.out M.out.low) 0 _ rfl; have b1 := Blk.cell (Blk.low HB.out M.out.low) 1 _ rfl; have b2 := Blk.cell (Blk.low HB.out M.out.low) 2 _ rfl; have b3 := Blk.cell (Blk.low HB.out M.out.low) 3 _ rfl; have b4 := Blk.cell (Blk.low HB.out M.out.low) 4 _ rfl; have g0 := Blk.free (Blk.low HB.out M.out.low) 0; have g1 := Blk.free (Blk.low HB.out M.out.low) 1; have g2 := Blk.free (Blk.low HB.out M.out.low) 2; have g3 := Blk.free (Blk.low HB.out M.out.low) 3; have g4 := Blk.free (Blk.low HB.out M.out.low) 4))
            refine bodyPost_ret (results_none rfl _ _ _) rfl ⟨⟨_, rfl⟩, ?_⟩
            exact stripped_no HB.out (by rw [HFf.out]; exact HX.out) (M.out.low.alloc (Nat.le_of_lt zl) _)
    · have hke : k = t.length := by omega
      subst hke
      have hk0 : ¬ t.length = 0 := by omega
      have M := Aside.mk hmine
      simp only [hk0, if_false] at M
      clear hmine
      have H2 := HA.out
      have R2 := R.out
      rw [List.take_of_length_le (Nat.le_refl _)] at H2 R2
      obtain ⟨A', c', rfl, hst⟩ := R2.form
      have HA2 := Lib.hid H2
      have R3 := Aside.mk R2
      clear H2 R2 hst R HA
      generalize hfst : Rp.fst3 code t = f at *
      obtain ⟨f1, f2, f3⟩ := f
      have HFf := Lib.hid hfst
      clear hfst
      simp only at M
      have z0 := Mine.at M.out 0 _ rfl; have z1 := Mine.at M.out 1 _ rfl; have z2 := Mine.at M.out 2 _ rfl; have y0 := Mine.free M.out 0; have y1 := Mine.free M.out 1; have y2 := Mine.free M.out 2; have zl := Mine.lt M.out; have b0 := Blk.cell (Blk.low HB.out M.out.low) 0 _ rfl; have b1 := Blk.cell (Blk.low HB.out M.out.low) 1 _ rfl; have b2 := Blk.cell (Blk.low HB.out M.out.low) 2 _ rfl; have b3 := Blk.cell (Blk.low HB.out M.out.low) 3 _ rfl; have b4 := Blk.cell (Blk.low HB.out M.out.low) 4 _ rfl; have g0 := Blk.free (Blk.low HB.out M.out.low) 0; have g1 := Blk.free (Blk.low HB.out M.out.low) 1; have g2 := Blk.free (Blk.low HB.out M.out.low) 2; have g3 := Blk.free (Blk.low HB.out M.out.low) 3; have g4 := Blk.free (Blk.low HB.out M.out.low) 4
      go_wp2
      go_end0
      refine ⟨⟨_, rfl⟩, ?_, .inl ⟨by rw [HFf.out]; exact HA2.out, A', c', ?_, ?_⟩⟩
      · exact ((((Chg.ofBelow M.out.low (fun k => k = b)).setCell (p := ⟨b, 1, none⟩) (fun _ => rfl) _).setCell (p := ⟨b, 2, none⟩) (fun _ => rfl) _).setCell (p := ⟨b, 3, none⟩) (fun _ => rfl) _).setCell (p := ⟨b, 4, none⟩) (fun _ => rfl) _
      · rw [HFf.out]
        have := ((((HB.out.low M.out.low).set 1 (.int .i64 f1)).set 2 (.int .i64 f2)).set 3 (.int .i64 f3)).set 4 (.slice A' t.length c')
        simpa using this
      · have hne := R3.out.neOld hbl
        exact ((((R3.out.setOther (a := ⟨b, 1, none⟩) hne _).setOther (a := ⟨b, 2, none⟩) hne _).setOther (a := ⟨b, 3, none⟩) hne _).setOther (a := ⟨b, 4, none⟩) hne _).strs
end Go.Proofs.YtfeedokfcebjjaaDoor
