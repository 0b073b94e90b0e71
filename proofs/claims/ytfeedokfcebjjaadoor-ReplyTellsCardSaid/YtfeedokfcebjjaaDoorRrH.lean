/-
  Walks of the package reply: the reference's Parse.
-/
import Derived.Test.YtfeedokfcebjjaaDoorRrG
import Derived.Test.YtfeedokfcebjjaaDoorRpParse
import Derived.Test.YtfeedokfcebjjaaDoorRpLaw2
import Derived.Test.YtfeedokfcebjjaaDoorKept
import Derived.Test.YtfeedokfcebjjaaDoorApp4
import Derived.Deep.RegionHeld3
import Derived.Outline
set_option linter.unusedVariables false
set_option linter.unusedSimpArgs false
namespace Go.Proofs.YtfeedokfcebjjaaDoor
open Go.RowKit
set_option maxRecDepth 100000
attribute [local go_sem] equal3
theorem blk5 {W : World} {b : Nat} {c0 c1 c2 c3 c4 : Value} {T0 : TypeId} (h : Blk W b #[c0, c1, c2, c3, c4] T0) :
    W.cell? ⟨b, 0, none⟩ = some c0 ∧ W.cell? ⟨b, 1, none⟩ = some c1 ∧ W.cell? ⟨b, 2, none⟩ = some c2 ∧ W.cell? ⟨b, 3, none⟩ = some c3 ∧ W.cell? ⟨b, 4, none⟩ = some c4 ∧
      W.frozen? ⟨b, 0, none⟩ = false ∧ W.frozen? ⟨b, 1, none⟩ = false ∧ W.frozen? ⟨b, 2, none⟩ = false ∧ W.frozen? ⟨b, 3, none⟩ = false ∧ W.frozen? ⟨b, 4, none⟩ = false ∧ b < W.heap.size :=
  ⟨h.cell 0 _ rfl, h.cell 1 _ rfl, h.cell 2 _ rfl, h.cell 3 _ rfl, h.cell 4 _ rfl, h.free 0, h.free 1, h.free 2, h.free 3, h.free 4, h.lt⟩
theorem Kp.ofMine {w W : World} {L : List (Nat × Array Value × TypeId)} {A : Option Addr} {xs : List ByteArray} (h : Mine w L W) (hs : Strs W A xs) : Kp w L [(A, xs)] W :=
  ⟨h.low, fun x hx => (h.own x hx).2, fun x hx => by rw [List.mem_singleton] at hx; subst hx; exact hs⟩
theorem Strs.cellAt {w : World} {g : Nat} {xs : List ByteArray} (h : Strs w (some ⟨g, 0, none⟩) xs) (j : Nat) (hj : j < xs.length) : w.cell? ⟨g, j, none⟩ = some (.string xs[j]) ∧ g < w.heap.size := by
  obtain ⟨b, o, e, hl, hc⟩ := h (by rintro rfl; simp at hj)
  injection e with e
  injection e with e1 e2 _
  subst e1 e2
  exact ⟨by have := hc j hj; rwa [Nat.zero_add] at this, hl⟩
theorem say_short {s : ByteArray} (h : s.size ≤ 4) : Rp.say s = ⟨#[]⟩ := by
  have hl : s.data.toList.length = s.size := by simp
  unfold Rp.say
  rw [List.drop_eq_nil_of_le (by omega)]
theorem Strs.setOther {w : World} {A : Option Addr} {xs : List ByteArray} (h : Strs w A xs) {p : Addr} (hp : ∀ b o, A = some ⟨b, o, none⟩ → b ≠ p.block) (v : Value) : Strs (w.setCell p v) A xs := fun hn => by
  obtain ⟨b, o, e, hl, hc⟩ := h hn
  refine ⟨b, o, e, by simpa using hl, fun j hj => ?_⟩
  rw [← hc j hj]
  unfold World.cell?
  simp only
  rw [Below.heap_setCell _ _ _ _ (hp b o e)]
theorem Strs.set5 {w : World} {A : Option Addr} {xs : List ByteArray} (h : Strs w A xs) {q : Nat} (hp : ∀ b o, A = some ⟨b, o, none⟩ → b ≠ q) (v0 v1 v2 v3 v4 : Value) : Strs (((((w.setCell ⟨q, 0, none⟩ v0).setCell ⟨q, 1, none⟩ v1).setCell ⟨q, 2, none⟩ v2).setCell ⟨q, 3, none⟩ v3).setCell ⟨q, 4, none⟩ v4) A xs :=
  ((((h.setOther (p := ⟨q, 0, none⟩) hp v0).setOther (p := ⟨q, 1, none⟩) hp v1).setOther (p := ⟨q, 2, none⟩) hp v2).setOther (p := ⟨q, 3, none⟩) hp v3).setOther (p := ⟨q, 4, none⟩) hp v4
theorem blk3 {W : World} {b : Nat} {c0 c1 c2 : Value} {T0 : TypeId} (h : Blk W b #[c0, c1, c2] T0) :
    W.cell? ⟨b, 0, none⟩ = some c0 ∧ W.cell? ⟨b, 1, none⟩ = some c1 ∧ W.cell? ⟨b, 2, none⟩ = some c2 ∧ b < W.heap.size := ⟨h.cell 0 _ rfl, h.cell 1 _ rfl, h.cell 2 _ rfl, h.lt⟩
theorem low9 {B : Nat} {w W : World} (h : Below B w W) {q b : Nat} (hq : B ≤ q) (hb : B ≤ b) (a1 a2 a3 a4 v0 v1 v2 v3 v4 : Value) :
    Below B w (((((((((W.setCell ⟨q, 1, none⟩ a1).setCell ⟨q, 2, none⟩ a2).setCell ⟨q, 3, none⟩ a3).setCell ⟨q, 4, none⟩ a4).setCell ⟨b, 0, none⟩ v0).setCell ⟨b, 1, none⟩ v1).setCell ⟨b, 2, none⟩ v2).setCell ⟨b, 3, none⟩ v3).setCell ⟨b, 4, none⟩ v4) :=
  low5 ((((h.setCell (p := ⟨q, 1, none⟩) hq a1).setCell (p := ⟨q, 2, none⟩) hq a2).setCell (p := ⟨q, 3, none⟩) hq a3).setCell (p := ⟨q, 4, none⟩) hq a4) hb _ _ _ _ _
theorem Strs.set9 {w : World} {A : Option Addr} {xs : List ByteArray} (h : Strs w A xs) {q b : Nat} (hq : ∀ c o, A = some ⟨c, o, none⟩ → c ≠ q) (hb : ∀ c o, A = some ⟨c, o, none⟩ → c ≠ b) (a1 a2 a3 a4 v0 v1 v2 v3 v4 : Value) :
    Strs (((((((((w.setCell ⟨q, 1, none⟩ a1).setCell ⟨q, 2, none⟩ a2).setCell ⟨q, 3, none⟩ a3).setCell ⟨q, 4, none⟩ a4).setCell ⟨b, 0, none⟩ v0).setCell ⟨b, 1, none⟩ v1).setCell ⟨b, 2, none⟩ v2).setCell ⟨b, 3, none⟩ v3).setCell ⟨b, 4, none⟩ v4) A xs :=
  Strs.set5 ((((h.setOther (p := ⟨q, 1, none⟩) hq a1).setOther (p := ⟨q, 2, none⟩) hq a2).setOther (p := ⟨q, 3, none⟩) hq a3).setOther (p := ⟨q, 4, none⟩) hq a4) hb _ _ _ _ _
/-- Between two rounds of the reference's Parse. -/
def PrRel (l : List ByteArray) (w : World) (v i : Value) (wr : World) : Prop := ∃ (k : Nat) (cd : Int), k ≤ l.length ∧ i = .int .i64 k ∧ Rp.prs 0 0 l = Rp.prs k cd (l.drop k) ∧ (0 < k → ∀ s0, l[0]? = some s0 → cd = Rp.code s0.data.toList) ∧
  Row wr w.heap.size v ((l.take k).map Rp.say) ∧ Mine w [(w.heap.size, #[.int .i64 0, .int .i64 0, .int .i64 0, .int .i64 0, .slice none 0 0], 25)] wr
/-- Between two rounds over the texts. -/
def TlRel (n f1 f2 f3 : Int) (fl : Bool) (ts : List ByteArray) (W1 : World) (a v i : Value) (wr : World) : Prop := ∃ (j : Nat) (B : Option Addr) (c : Nat), j ≤ ts.length ∧ i = .int .i64 j ∧ a = .bool (fl && (ts.take j).all (Rp.good n (f1, f2, f3))) ∧ v = .slice B j c ∧
  Row wr W1.heap.size (.slice B j c) ((ts.take j).map (Rp.behind n)) ∧ Below W1.heap.size W1 wr
/-- What the texts' rounds come to. -/
theorem tail_body {n f1 f2 f3 : Int} {r0 : List UInt8} {fl : Bool} {t0 : ByteArray} {r : List ByteArray} (h : Rp.rd n t0.data.toList = (f1, f2, f3, r0, fl)) :
    Rp.body n (t0 :: r) = if (fl && (t0 :: r).all (Rp.good n (f1, f2, f3))) = true then ((f1, f2, f3), (t0 :: r).map (Rp.behind n)) else ((0, 0, 0), t0 :: r) := by
  have hf : Rp.fst3 n (t0 :: r) = (f1, f2, f3) := by simp [Rp.fst3, h]
  unfold Rp.body
  rw [hf]
  cases hfl : fl with
  | true => rw [Bool.true_and]
  | false =>
    have : (t0 :: r).all (Rp.good n (f1, f2, f3)) = false := by simp [Rp.good, h, hfl]
    rw [this]
    rfl
set_option maxHeartbeats 20000000 in
theorem rparse_any (l : List ByteArray) (A : Option Addr) (cp : Nat) (w : World) (hS : Strs w A l) (hs : ∀ s ∈ l, s.size ≤ 1000000) (hl : l.length ≤ 1000000) :
    Calls Tryd.prog 11 #[.slice A l.length cp] w fun e w' => PsOut l w e w' := by
  have HS := Aside.mk hS
  have Hs := Aside.mk hs
  clear hS hs
  have M0 : Aside (Mine w [(w.heap.size, #[.int .i64 0, .int .i64 0, .int .i64 0, .int .i64 0, .slice none 0 0], 25)] (w.alloc (.cells #[.int .i64 0, .int .i64 0, .int .i64 0, .int .i64 0, .slice none 0 0] 25))) := ⟨(Mine.start w).alloc #[.int .i64 0, .int .i64 0, .int .i64 0, .int .i64 0, .slice none 0 0] 25⟩
  go_enter Tryd.func11, Tryd.ntmps11
  go_wp2
  go_loopw [5, 6] (fun v i wr => PrRel l w v i wr) (fun _ i _ => l.length - (intOf i).toNat)
  case atStart => exact ⟨0, 0, by omega, rfl, rfl, fun h => absurd h (by omega), Row.nil _ _, M0.out⟩
  case round =>
    clear M0
    obtain ⟨k, cd, hk, rfl, hprs, hcd, hrow, hmine⟩ := hrel
    have R := Aside.mk hrow
    have M := Aside.mk hmine
    clear hrow hmine
    obtain ⟨x0, x1, x2, x3, x4, u0, u1, u2, u3, u4, xl⟩ := blk5 ((M.out.own _ (List.mem_cons_self ..)).2)
    by_cases hlt : k < l.length
    · obtain ⟨bb, oo, rfl, hbl, hcs⟩ := HS.out (by rintro rfl; simp at hlt)
      have h0l : 0 < l.length := by omega
      have hcell := cell_next M.out.low (hcs k hlt)
      have hcell0 := cell_next M.out.low (hcs 0 h0l)
      rw [Nat.add_zero] at hcell0
      clear hcs
      have hsz := Hs.out l[k] (List.getElem_mem _)
      have hsz0 := Hs.out l[0] (List.getElem_mem _)
      have HT := Lib.hid (List.take_succ_eq_append_getElem (l := l) (i := k) hlt)
      rw [List.drop_eq_getElem_cons hlt] at hprs
      have HP := Lib.hid hprs
      have HCD : Hid (0 < k → cd = Rp.code l[0].data.toList) := Lib.hid (fun h => hcd h _ (List.getElem?_eq_getElem h0l))
      have HK0 : Hid (k = 0 → Rp.code l[k].data.toList = Rp.code l[0].data.toList) := Lib.hid (fun h => by subst h; rfl)
      have HC00 : Hid (∀ s0, l[0]? = some s0 → Rp.code s0.data.toList = Rp.code l[0].data.toList) := Lib.hid (fun s0 h => by rw [List.getElem?_eq_getElem h0l] at h; injection h with h; rw [h])
      have hlenk : ((l.take k).map Rp.say).length = k := by rw [List.length_map, List.length_take]; omega
      have HLen := Lib.hid hlenk
      clear hprs hcd hlenk
      generalize l[0] = s0 at hcell0 hsz0 HCD HK0 HC00
      generalize l[k] = s at hcell hsz HT HP HK0
      have hlen : s.data.toList.length = s.size := by simp
      have hsh := fun W => rshown_any s W (by omega)
      have hcod := fun W => rcode_any s W (by omega)
      have hcod0 := fun W => rcode_any s0 W (by omega)
      obtain ⟨c0, hc0⟩ : ∃ c0, Rp.code s0.data.toList = c0 := ⟨_, rfl⟩
      rw [hc0] at hcod0 HCD HK0 HC00
      clear hc0
      obtain ⟨n, hn⟩ : ∃ n, Rp.code s.data.toList = n := ⟨_, rfl⟩
      rw [hn] at hcod HK0
      have HC := Lib.hid hn
      have hi1 : (0 : Int) ≤ (k : Int) := by omega
      have hi2 : (k : Int) < (l.length : Int) := by omega
      have hi3 : (0 : Int) < (l.length : Int) := by omega
      by_cases hcls : Rp.cls n = 0
      · have e0 : ((Rp.cls n : Int) == 0) = true := by simpa using hcls
        have HBad : Hid (Rp.bad k cd s.data.toList = 2) := Lib.hid (Rp.bad_2 (.inl (by rw [HC.out]; exact hcls)))
        clear hn
        go_wp2_with (first | (go_at_call 28; (with_reducible refine (hcod _).mono ?_); rintro e w' ⟨rfl, hw⟩; have hw' := hw.symm; clear hw; subst hw') | (go_at_call 28; (with_reducible refine (hcod0 _).mono ?_); rintro e w' ⟨rfl, hw⟩; have hw' := hw.symm; clear hw; subst hw') | (go_at_call 20; (with_reducible refine (rclass_any _ _).mono ?_); rintro e w' ⟨rfl, hw⟩; have hw' := hw.symm; clear hw; subst hw') | (go_at_call 29; (with_reducible refine (hsh _).mono ?_); rintro e w' ⟨rfl, hw⟩; have hw' := hw.symm; clear hw; subst hw'))
        all_goals
          refine bodyPost_ret (v := .tuple #[.agg #[.int .i64 0, .int .i64 0, .int .i64 0, .int .i64 0, .slice none 0 0], .int .i64 0, .int .i64 2]) (by simp [results, Tryd.results11, go_sem, x0, x1, x2, x3, x4]) rfl ?_
          exact PsOut.bad (HP.out.trans (Rp.prs_bad HBad.out (by decide))) (by decide) (low5 M.out.low (Nat.le_refl _) _ _ _ _ _)
      · have e0 : ((Rp.cls n : Int) == 0) = false := by simpa using hcls
        have HCl := Lib.hid hcls
        by_cases hnc : n = c0
        rotate_left
        · have hkp : 0 < k := by rcases Nat.eq_zero_or_pos k with h | h; exact absurd (HK0.out h) hnc; exact h
          have e1 : (n == c0) = false := by simpa using hnc
          have e2 : (n != c0) = true := by simpa using hnc
          have HBad : Hid (Rp.bad k cd s.data.toList = 2) := Lib.hid (Rp.bad_2 (.inr (.inl ⟨hkp, by rw [HC.out, HCD.out hkp]; exact hnc⟩)))
          clear hn hnc hcls
          go_wp2_with (first | (go_at_call 28; (with_reducible refine (hcod _).mono ?_); rintro e w' ⟨rfl, hw⟩; have hw' := hw.symm; clear hw; subst hw') | (go_at_call 28; (with_reducible refine (hcod0 _).mono ?_); rintro e w' ⟨rfl, hw⟩; have hw' := hw.symm; clear hw; subst hw') | (go_at_call 20; (with_reducible refine (rclass_any _ _).mono ?_); rintro e w' ⟨rfl, hw⟩; have hw' := hw.symm; clear hw; subst hw') | (go_at_call 29; (with_reducible refine (hsh _).mono ?_); rintro e w' ⟨rfl, hw⟩; have hw' := hw.symm; clear hw; subst hw'))
          all_goals
            refine bodyPost_ret (v := .tuple #[.agg #[.int .i64 0, .int .i64 0, .int .i64 0, .int .i64 0, .slice none 0 0], .int .i64 0, .int .i64 2]) (by simp [results, Tryd.results11, go_sem, x0, x1, x2, x3, x4]) rfl ?_
            exact PsOut.bad (HP.out.trans (Rp.prs_bad HBad.out (by decide))) (by decide) (low5 M.out.low (Nat.le_refl _) _ _ _ _ _)
        · subst hnc
          have HD : Hid (0 < k → Rp.code s.data.toList = cd) := Lib.hid (fun h => by rw [HC.out, HCD.out h])
          cases hv1 : Rp.shown s.data.toList with
          | false =>
            rw [hv1] at hsh
            have HBad : Hid (Rp.bad k cd s.data.toList = 2) := Lib.hid (Rp.bad_2 (.inr (.inr (.inr hv1))))
            clear hn hv1 hcls
            go_wp2_with (first | (go_at_call 28; (with_reducible refine (hcod _).mono ?_); rintro e w' ⟨rfl, hw⟩; have hw' := hw.symm; clear hw; subst hw') | (go_at_call 28; (with_reducible refine (hcod0 _).mono ?_); rintro e w' ⟨rfl, hw⟩; have hw' := hw.symm; clear hw; subst hw') | (go_at_call 20; (with_reducible refine (rclass_any _ _).mono ?_); rintro e w' ⟨rfl, hw⟩; have hw' := hw.symm; clear hw; subst hw') | (go_at_call 29; (with_reducible refine (hsh _).mono ?_); rintro e w' ⟨rfl, hw⟩; have hw' := hw.symm; clear hw; subst hw'))
            all_goals
              refine bodyPost_ret (v := .tuple #[.agg #[.int .i64 0, .int .i64 0, .int .i64 0, .int .i64 0, .slice none 0 0], .int .i64 0, .int .i64 2]) (by simp [results, Tryd.results11, go_sem, x0, x1, x2, x3, x4]) rfl ?_
              exact PsOut.bad (HP.out.trans (Rp.prs_bad HBad.out (by decide))) (by decide) (low5 M.out.low (Nat.le_refl _) _ _ _ _ _)
          | true =>
            rw [hv1] at hsh
            have HV := Lib.hid hv1
            clear hv1
            have h3 : 3 ≤ s.data.toList.length := by
              rcases Nat.lt_or_ge s.data.toList.length 3 with h | h
              · rw [Rp.code_short h] at hn; subst hn; exact absurd rfl hcls
              · exact h
            obtain ⟨x, y, z, r, hxyz⟩ : ∃ x y z r, s.data.toList = x :: y :: z :: r := by
              match hx : s.data.toList, h3 with
              | x :: y :: z :: r, _ => exact ⟨x, y, z, r, rfl⟩
            clear hn hcls
            cases r with
            | nil =>
              have h33 : s.size = 3 := by rw [← hlen, hxyz]; rfl
              have q2 : ¬ (3 : Int) < s.size := by omega
              have q3 : ¬ (4 : Int) < s.size := by omega
              have HL : Hid (Rp.last s.data.toList = true) := Lib.hid (by rw [hxyz]; rfl)
              have HS0 : Hid (Rp.sgn s.data.toList = false) := Lib.hid (by rw [hxyz]; rfl)
              clear hxyz
              have hlong : ¬ (510 : Int) < s.size := by omega
              by_cases h32 : (32 : Int) ≤ (k : Int)
              · have HBad : Hid (Rp.bad k cd s.data.toList = 3) := Lib.hid (Rp.bad_3 (by rw [HC.out]; exact HCl.out) HD.out HS0.out HV.out (by omega))
                go_wp2_with (first | (go_at_call 28; (with_reducible refine (hcod _).mono ?_); rintro e w' ⟨rfl, hw⟩; have hw' := hw.symm; clear hw; subst hw') | (go_at_call 28; (with_reducible refine (hcod0 _).mono ?_); rintro e w' ⟨rfl, hw⟩; have hw' := hw.symm; clear hw; subst hw') | (go_at_call 20; (with_reducible refine (rclass_any _ _).mono ?_); rintro e w' ⟨rfl, hw⟩; have hw' := hw.symm; clear hw; subst hw') | (go_at_call 29; (with_reducible refine (hsh _).mono ?_); rintro e w' ⟨rfl, hw⟩; have hw' := hw.symm; clear hw; subst hw'))
                all_goals
                  refine bodyPost_ret (v := .tuple #[.agg #[.int .i64 0, .int .i64 0, .int .i64 0, .int .i64 0, .slice none 0 0], .int .i64 0, .int .i64 3]) (by simp [results, Tryd.results11, go_sem, x0, x1, x2, x3, x4]) rfl ?_
                  exact PsOut.bad (HP.out.trans (Rp.prs_bad HBad.out (by decide))) (by decide) (low5 M.out.low (Nat.le_refl _) _ _ _ _ _)
              · have HBad : Hid (Rp.bad k cd s.data.toList = 0) := Lib.hid (Rp.bad_0 (by rw [HC.out]; exact HCl.out) HD.out HS0.out HV.out (by omega) (by omega))
                have HSay : Hid ((⟨#[]⟩ : ByteArray) = Rp.say s) := Lib.hid ((say_short (by omega)).symm)
                have hts : Hid ((l.take (k + 1)).map Rp.say = (l.take k).map Rp.say ++ [(⟨#[]⟩ : ByteArray)]) := Lib.hid (by rw [HT.out, List.map_append, HSay.out]; rfl)
                obtain ⟨t0, tr, ht0⟩ : ∃ t0 tr, (l.take (k + 1)).map Rp.say = t0 :: tr := by
                  cases hq : (l.take (k + 1)).map Rp.say with
                  | nil => have := congrArg List.length hq; rw [List.length_map, List.length_take, List.length_nil] at this; omega
                  | cons t0 tr => exact ⟨t0, tr, rfl⟩
                have hsizes : ∀ q ∈ t0 :: tr, q.size ≤ 1000000 := by
                  rw [← ht0]; intro q hq; obtain ⟨p, hp, rfl⟩ := List.mem_map.1 hq; have h6 := Hs.out p (List.mem_of_mem_take hp); have h7 := Rp.say_size p; omega
                have hlt0 : tr.length = k := by have := congrArg List.length ht0; rw [List.length_map, List.length_take, List.length_cons] at this; omega
                have HSZ := Aside.mk hsizes
                have hz0 := hsizes t0 (List.mem_cons_self ..)
                replace hts : Hid ((l.take k).map Rp.say ++ [(⟨#[]⟩ : ByteArray)] = t0 :: tr) := Lib.hid (by rw [← hts.out, ht0])
                have HT0 := Lib.hid ht0
                clear hsizes ht0
                obtain ⟨f1, f2, f3, r0, fl, hrd0⟩ : ∃ f1 f2 f3 r0 fl, Rp.rd n t0.data.toList = (f1, f2, f3, r0, fl) := ⟨_, _, _, _, _, rfl⟩
                have hread0 := fun W => rread_any n HCl.out t0 W hz0
                rw [hrd0] at hread0
                simp only [rdV] at hread0
                have HBody := Lib.hid (tail_body (r := tr) hrd0)
                clear hrd0 hz0
                go_wp2_with (first | (go_at_call 28; (with_reducible refine (hcod _).mono ?_); rintro e w' ⟨rfl, hw⟩; have hw' := hw.symm; clear hw; subst hw') | (go_at_call 28; (with_reducible refine (hcod0 _).mono ?_); rintro e w' ⟨rfl, hw⟩; have hw' := hw.symm; clear hw; subst hw') | (go_at_call 20; (with_reducible refine (rclass_any _ _).mono ?_); rintro e w' ⟨rfl, hw⟩; have hw' := hw.symm; clear hw; subst hw') | (go_at_call 29; (with_reducible refine (hsh _).mono ?_); rintro e w' ⟨rfl, hw⟩; have hw' := hw.symm; clear hw; subst hw') | (at_builtin; refine app_strs rfl _ _ rfl w.heap.size _ _ k HLen.out (by rfl) (R.out.alloc _) (some ⟨wr.heap.size, 0, none⟩) 1 1 (by rfl) [(⟨#[]⟩ : ByteArray)] rfl (Strs.new wr [(⟨#[]⟩ : ByteArray)] 9) (by omega) (by omega) ((M.out.allocO (.cells #[.string (⟨#[]⟩ : ByteArray)] 9)).low.size) ?_; intro g cap w4 hrow4 hgrow4 _ _; have M4 := Aside.mk ((M.out.allocO (.cells #[.string (⟨#[]⟩ : ByteArray)] 9)).app (R.out.alloc _) hgrow4 (by simp)); have R4 := Aside.mk hrow4; clear M R hrow4 hgrow4; (try clear x0 x1 x2 x3 x4 u0 u1 u2 u3 u4 xl); have M := M4; clear M4; have RS : Aside (Strs w4 (some ⟨g, 0, none⟩) (t0 :: tr)) := ⟨by have h8 := R4.out.strs; rw [hts.out] at h8; exact h8⟩; have hq0 : w4.cell? ⟨g, 0, none⟩ = some (.string t0) := (RS.out.cellAt 0 (by simp)).1; have hgl := (RS.out.cellAt 0 (by simp)).2; have hne4 := R4.out.ne (M.out.own _ (List.mem_cons_self ..)).2 (show 25 ≠ 9 by decide); have HG : Aside (g ≠ w.heap.size) := ⟨fun q => hne4 (by rw [q]; rfl)⟩; have K : Aside (Kp w [(w4.heap.size, #[.int .i64 n, .int .i64 0, .int .i64 0, .int .i64 0, .slice (some ⟨g, 0, none⟩) (k + 1) cap], 25), (w.heap.size, #[.int .i64 0, .int .i64 0, .int .i64 0, .int .i64 0, .slice none 0 0], 25)] [(some ⟨g, 0, none⟩, t0 :: tr)] (w4.alloc (.cells #[.int .i64 n, .int .i64 0, .int .i64 0, .int .i64 0, .slice (some ⟨g, 0, none⟩) (k + 1) cap] 25))) := ⟨(Kp.ofMine M.out RS.out).blk #[.int .i64 n, .int .i64 0, .int .i64 0, .int .i64 0, .slice (some ⟨g, 0, none⟩) (k + 1) cap] 25⟩; have hwl := M.out.lt; clear M R4 RS hne4) | (go_at_call 30; (with_reducible refine (hread0 _).mono ?_); rintro e w5 ⟨rfl, hb⟩; have hw5 := hb.size; replace K := Aside.mk ((K.out.next hb).blk #[.int .i64 f1, .int .i64 f2, .int .i64 f3] 23); clear hb hq0 hgl))
                obtain ⟨W1, hW1⟩ : ∃ W1, w5.alloc (.cells #[.int .i64 f1, .int .i64 f2, .int .i64 f3] 23) = W1 := ⟨_, rfl⟩
                have hW1s : W1.heap.size = w5.heap.size + 1 := by rw [← hW1]; simp
                rw [hW1] at K ⊢
                clear hW1
                (try clear x0 x1 x2 x3 x4 u0 u1 u2 u3 u4 xl)
                go_loopw [12, 13, 14] (fun a v i wr => TlRel n f1 f2 f3 fl (t0 :: tr) W1 a v i wr) (fun _ _ i _ => k + 1 - (intOf i).toNat)
                case atStart => exact ⟨0, none, 0, by omega, rfl, by simp, rfl, Row.nil _ _, Below.refl _ _⟩
                case round =>
                  obtain ⟨j, B, c, hj, rfl, ha, rfl, hrow, hbel⟩ := hrel
                  have RB := Aside.mk hrow
                  have HB := Aside.mk hbel
                  clear hrow hbel
                  obtain ⟨av, hav⟩ : ∃ av, (fl && ((t0 :: tr).take j).all (Rp.good n (f1, f2, f3))) = av := ⟨_, rfl⟩
                  rw [hav] at ha
                  subst ha
                  have HA := Lib.hid hav
                  clear hav
                  rw [List.length_cons, hlt0] at hj
                  obtain ⟨z0, z1, z2, zl⟩ := blk3 ((K.out.next HB.out).own _ (List.mem_cons_self ..))
                  by_cases hjl : j < k + 1
                  · have hjt : j < (t0 :: tr).length := by rw [List.length_cons]; omega
                    obtain ⟨hqj, hgj⟩ := ((K.out.next HB.out).textm (show (some ⟨g, 0, none⟩, t0 :: tr) ∈ _ by simp)).cellAt j (by rw [List.length_cons]; omega)
                    have hszj := HSZ.out ((t0 :: tr)[j]'hjt) (List.getElem_mem _)
                    have HTj := Lib.hid (List.take_succ_eq_append_getElem (l := t0 :: tr) (i := j) (by rw [List.length_cons]; omega))
                    have HLj : Hid ((((t0 :: tr).take j).map (Rp.behind n)).length = j) := Lib.hid (by rw [List.length_map, List.length_take, List.length_cons]; omega)
                    generalize (t0 :: tr)[j]'hjt = tj at hqj hszj HTj
                    obtain ⟨e1, e2, e3, rj, fj, hrdj⟩ : ∃ e1 e2 e3 rj fj, Rp.rd n tj.data.toList = (e1, e2, e3, rj, fj) := ⟨_, _, _, _, _, rfl⟩
                    have hread := fun W => rread_any n HCl.out tj W hszj
                    rw [hrdj] at hread
                    simp only [rdV] at hread
                    have HGood : Hid (Rp.good n (f1, f2, f3) tj = (fj && same3 e1 e2 e3 f1 f2 f3)) := Lib.hid (by simp [Rp.good, hrdj, same3])
                    have Hbeh : Hid (Rp.behind n tj = ⟨rj.toArray⟩) := Lib.hid (by simp [Rp.behind, hrdj])
                    clear hrdj hszj
                    have hi4 : (j : Int) < (k : Int) + 1 := by omega
                    have hi5 : (0 : Int) ≤ (j : Int) := by omega
                    cases av with
                    | false =>
                      go_wp2_with (first | (go_at_call 30; (with_reducible refine (hread _).mono ?_); rintro e w6 ⟨rfl, hb⟩; replace RB := Aside.mk (RB.out.next hb); replace HB := Aside.mk (Below.next HB.out hb (Nat.le_refl _)); clear hb hqj hgj z0 z1 z2 zl; obtain ⟨z0, z1, z2, zl⟩ := blk3 ((K.out.next HB.out).own _ (List.mem_cons_self ..))) | (at_builtin; refine app_copy rfl _ _ rfl (W0 := W1) ((HB.out.alloc HB.out.size (.cells #[.int .i64 e1, .int .i64 e2, .int .i64 e3] 23)).alloc (HB.out.alloc HB.out.size _).size (.cells #[.string ⟨rj.toArray⟩] 9)) B j c _ HLj.out (by rfl) ((RB.out.alloc _).alloc _) (some ⟨w6.heap.size + 1, 0, none⟩) 1 1 (by rfl) [⟨rj.toArray⟩] rfl (by have h8 := Strs.new (w6.alloc (.cells #[.int .i64 e1, .int .i64 e2, .int .i64 e3] 23)) [(⟨rj.toArray⟩ : ByteArray)] 9; simpa using h8) (by omega) (j + 1) rfl _ rfl ?_; intro B2 c2 w7 hr7 hs7 hb7; have R7 := Aside.mk hr7; have B7 := Aside.mk hb7; clear hr7 hs7 hb7 RB HB))
                      go_roundw
                      case rel => exact ⟨j + 1, B2, c2, by rw [List.length_cons]; omega, by go_num, by rw [HTj.out, List.all_append, ← Bool.and_assoc, HA.out]; simp [HGood.out, Bool.false_and], rfl, by rw [HTj.out, List.map_append, List.map_singleton, Hbeh.out]; exact R7.out, B7.out⟩
                      case measure => simp [intOf]; omega
                    | true =>
                      cases fj with
                      | false =>
                        go_wp2_with (first | (go_at_call 30; (with_reducible refine (hread _).mono ?_); rintro e w6 ⟨rfl, hb⟩; replace RB := Aside.mk (RB.out.next hb); replace HB := Aside.mk (Below.next HB.out hb (Nat.le_refl _)); clear hb hqj hgj z0 z1 z2 zl; obtain ⟨z0, z1, z2, zl⟩ := blk3 ((K.out.next HB.out).own _ (List.mem_cons_self ..))) | (at_builtin; refine app_copy rfl _ _ rfl (W0 := W1) ((HB.out.alloc HB.out.size (.cells #[.int .i64 e1, .int .i64 e2, .int .i64 e3] 23)).alloc (HB.out.alloc HB.out.size _).size (.cells #[.string ⟨rj.toArray⟩] 9)) B j c _ HLj.out (by rfl) ((RB.out.alloc _).alloc _) (some ⟨w6.heap.size + 1, 0, none⟩) 1 1 (by rfl) [⟨rj.toArray⟩] rfl (by have h8 := Strs.new (w6.alloc (.cells #[.int .i64 e1, .int .i64 e2, .int .i64 e3] 23)) [(⟨rj.toArray⟩ : ByteArray)] 9; simpa using h8) (by omega) (j + 1) rfl _ rfl ?_; intro B2 c2 w7 hr7 hs7 hb7; have R7 := Aside.mk hr7; have B7 := Aside.mk hb7; clear hr7 hs7 hb7 RB HB))
                        go_roundw
                        case rel => exact ⟨j + 1, B2, c2, by rw [List.length_cons]; omega, by go_num, by rw [HTj.out, List.all_append, ← Bool.and_assoc, HA.out]; simp [HGood.out, Bool.false_and], rfl, by rw [HTj.out, List.map_append, List.map_singleton, Hbeh.out]; exact R7.out, B7.out⟩
                        case measure => simp [intOf]; omega
                      | true =>
                        obtain ⟨qv, hqv⟩ : ∃ qv, same3 e1 e2 e3 f1 f2 f3 = qv := ⟨_, rfl⟩
                        rw [hqv] at HGood
                        go_wp2_with (first | (go_at_call 30; (with_reducible refine (hread _).mono ?_); rintro e w6 ⟨rfl, hb⟩; replace RB := Aside.mk (RB.out.next hb); replace HB := Aside.mk (Below.next HB.out hb (Nat.le_refl _)); clear hb hqj hgj z0 z1 z2 zl; obtain ⟨z0, z1, z2, zl⟩ := blk3 ((K.out.next HB.out).own _ (List.mem_cons_self ..))) | (at_builtin; refine app_copy rfl _ _ rfl (W0 := W1) ((HB.out.alloc HB.out.size (.cells #[.int .i64 e1, .int .i64 e2, .int .i64 e3] 23)).alloc (HB.out.alloc HB.out.size _).size (.cells #[.string ⟨rj.toArray⟩] 9)) B j c _ HLj.out (by rfl) ((RB.out.alloc _).alloc _) (some ⟨w6.heap.size + 1, 0, none⟩) 1 1 (by rfl) [⟨rj.toArray⟩] rfl (by have h8 := Strs.new (w6.alloc (.cells #[.int .i64 e1, .int .i64 e2, .int .i64 e3] 23)) [(⟨rj.toArray⟩ : ByteArray)] 9; simpa using h8) (by omega) (j + 1) rfl _ rfl ?_; intro B2 c2 w7 hr7 hs7 hb7; have R7 := Aside.mk hr7; have B7 := Aside.mk hb7; clear hr7 hs7 hb7 RB HB))
                        go_roundw
                        case rel => exact ⟨j + 1, B2, c2, by rw [List.length_cons]; omega, by go_num, by rw [HTj.out, List.all_append, ← Bool.and_assoc, HA.out]; simp [HGood.out, Bool.true_and], rfl, by rw [HTj.out, List.map_append, List.map_singleton, Hbeh.out]; exact R7.out, B7.out⟩
                        case measure => simp [intOf]; omega
                  · obtain rfl : j = k + 1 := by omega
                    rw [List.take_of_length_le (by rw [List.length_cons]; omega)] at HA RB
                    rw [HA.out] at HBody
                    have hK := K.out.next HB.out
                    obtain ⟨p0, p1, p2, p3, p4, v0, v1, v2, v3, v4, pl⟩ := blk5 (hK.own _ (List.mem_cons_of_mem _ (List.mem_cons_self ..)))
                    obtain ⟨x0, x1, x2, x3, x4, u0, u1, u2, u3, u4, xl⟩ := blk5 (hK.own _ (List.mem_cons_of_mem _ (List.mem_cons_of_mem _ (List.mem_cons_self ..))))
                    have HS9 := Aside.mk (hK.textm (show (some ⟨g, 0, none⟩, t0 :: tr) ∈ _ by simp))
                    have HL9 := Aside.mk hK.low
                    clear hK
                    have hn1 : ¬ w4.heap.size = w.heap.size := by omega
                    have hn2 : ¬ w.heap.size = w4.heap.size := by omega
                    have hlow4 : w4.heap.size < W1.heap.size := by simp at hw5; omega
                    cases av with
                    | true =>
                      rw [if_pos rfl] at HBody
                      go_wp2
                      refine bodyPost_ret (v := .tuple #[.agg #[.int .i64 n, .int .i64 f1, .int .i64 f2, .int .i64 f3, .slice B (k + 1) c], .int .i64 ((k : Int) + 1), .int .i64 0]) (by simp [results, Tryd.results11, go_sem, x0, x1, x2, x3, x4]) rfl ?_
                      exact PsOut.good (by rw [HP.out, Rp.prs_last HBad.out HL.out, HC.out]) (by simp) (by rw [HT0.out]; exact HBody.out) (Strs.set9 RB.out.strs (fun b_ o_ e_ => by subst e_; have := (RB.out.lt b_ rfl).1; omega) (fun b_ o_ e_ => by subst e_; have := (RB.out.lt b_ rfl).1; omega) _ _ _ _ _ _ _ _ _) (low9 HL9.out (by omega) (Nat.le_refl _) _ _ _ _ _ _ _ _ _)
                    | false =>
                      rw [if_neg (by simp)] at HBody
                      go_wp2
                      refine bodyPost_ret (v := .tuple #[.agg #[.int .i64 n, .int .i64 0, .int .i64 0, .int .i64 0, .slice (some ⟨g, 0, none⟩) (k + 1) cap], .int .i64 ((k : Int) + 1), .int .i64 0]) (by simp [results, Tryd.results11, go_sem, x0, x1, x2, x3, x4]) rfl ?_
                      exact PsOut.good (by rw [HP.out, Rp.prs_last HBad.out HL.out, HC.out]) (by simp) (by rw [HT0.out]; exact HBody.out) (Strs.set5 HS9.out (fun b_ o_ e_ => by injection e_ with e_; injection e_ with e_ _ _; subst e_; exact HG.out) _ _ _ _ _) (low5 HL9.out (Nat.le_refl _) _ _ _ _ _)
            | cons c r =>
              have h44 : 4 ≤ s.size := by rw [← hlen, hxyz]; simp
              have q2 : (3 : Int) < s.size := by omega
              have hget0 : s.data[3]? = some c := by have h4 : s.data.toList[3]? = some c := (by rw [hxyz]; rfl); simpa using h4
              have hget : s[3]'(by omega) = c := (Array.getElem?_eq_some_iff.1 hget0).2
              clear hget0
              by_cases c32 : c = 32
              · subst c32
                have HL : Hid (Rp.last s.data.toList = true) := Lib.hid (by rw [hxyz]; rfl)
                have HS0 : Hid (Rp.sgn s.data.toList = false) := Lib.hid (by rw [hxyz]; rfl)
                clear hxyz
                by_cases h5 : (4 : Int) < s.size
                · by_cases hlong : (510 : Int) < s.size
                  · have HBad : Hid (Rp.bad k cd s.data.toList = 3) := Lib.hid (Rp.bad_3 (by rw [HC.out]; exact HCl.out) HD.out HS0.out HV.out (by omega))
                    go_wp2_with (first | (go_at_call 28; (with_reducible refine (hcod _).mono ?_); rintro e w' ⟨rfl, hw⟩; have hw' := hw.symm; clear hw; subst hw') | (go_at_call 28; (with_reducible refine (hcod0 _).mono ?_); rintro e w' ⟨rfl, hw⟩; have hw' := hw.symm; clear hw; subst hw') | (go_at_call 20; (with_reducible refine (rclass_any _ _).mono ?_); rintro e w' ⟨rfl, hw⟩; have hw' := hw.symm; clear hw; subst hw') | (go_at_call 29; (with_reducible refine (hsh _).mono ?_); rintro e w' ⟨rfl, hw⟩; have hw' := hw.symm; clear hw; subst hw'))
                    all_goals
                      refine bodyPost_ret (v := .tuple #[.agg #[.int .i64 0, .int .i64 0, .int .i64 0, .int .i64 0, .slice none 0 0], .int .i64 0, .int .i64 3]) (by simp [results, Tryd.results11, go_sem, x0, x1, x2, x3, x4]) rfl ?_
                      exact PsOut.bad (HP.out.trans (Rp.prs_bad HBad.out (by decide))) (by decide) (low5 M.out.low (Nat.le_refl _) _ _ _ _ _)
                  · skip
                    by_cases h32 : (32 : Int) ≤ (k : Int)
                    · have HBad : Hid (Rp.bad k cd s.data.toList = 3) := Lib.hid (Rp.bad_3 (by rw [HC.out]; exact HCl.out) HD.out HS0.out HV.out (by omega))
                      go_wp2_with (first | (go_at_call 28; (with_reducible refine (hcod _).mono ?_); rintro e w' ⟨rfl, hw⟩; have hw' := hw.symm; clear hw; subst hw') | (go_at_call 28; (with_reducible refine (hcod0 _).mono ?_); rintro e w' ⟨rfl, hw⟩; have hw' := hw.symm; clear hw; subst hw') | (go_at_call 20; (with_reducible refine (rclass_any _ _).mono ?_); rintro e w' ⟨rfl, hw⟩; have hw' := hw.symm; clear hw; subst hw') | (go_at_call 29; (with_reducible refine (hsh _).mono ?_); rintro e w' ⟨rfl, hw⟩; have hw' := hw.symm; clear hw; subst hw'))
                      all_goals
                        refine bodyPost_ret (v := .tuple #[.agg #[.int .i64 0, .int .i64 0, .int .i64 0, .int .i64 0, .slice none 0 0], .int .i64 0, .int .i64 3]) (by simp [results, Tryd.results11, go_sem, x0, x1, x2, x3, x4]) rfl ?_
                        exact PsOut.bad (HP.out.trans (Rp.prs_bad HBad.out (by decide))) (by decide) (low5 M.out.low (Nat.le_refl _) _ _ _ _ _)
                    · have HBad : Hid (Rp.bad k cd s.data.toList = 0) := Lib.hid (Rp.bad_0 (by rw [HC.out]; exact HCl.out) HD.out HS0.out HV.out (by omega) (by omega))
                      have HSay : Hid ((s.extract 4 s.size) = Rp.say s) := Lib.hid (Rp.say_4 (by omega))
                      have hts : Hid ((l.take (k + 1)).map Rp.say = (l.take k).map Rp.say ++ [(s.extract 4 s.size)]) := Lib.hid (by rw [HT.out, List.map_append, HSay.out]; rfl)
                      obtain ⟨t0, tr, ht0⟩ : ∃ t0 tr, (l.take (k + 1)).map Rp.say = t0 :: tr := by
                        cases hq : (l.take (k + 1)).map Rp.say with
                        | nil => have := congrArg List.length hq; rw [List.length_map, List.length_take, List.length_nil] at this; omega
                        | cons t0 tr => exact ⟨t0, tr, rfl⟩
                      have hsizes : ∀ q ∈ t0 :: tr, q.size ≤ 1000000 := by
                        rw [← ht0]; intro q hq; obtain ⟨p, hp, rfl⟩ := List.mem_map.1 hq; have h6 := Hs.out p (List.mem_of_mem_take hp); have h7 := Rp.say_size p; omega
                      have hlt0 : tr.length = k := by have := congrArg List.length ht0; rw [List.length_map, List.length_take, List.length_cons] at this; omega
                      have HSZ := Aside.mk hsizes
                      have hz0 := hsizes t0 (List.mem_cons_self ..)
                      replace hts : Hid ((l.take k).map Rp.say ++ [(s.extract 4 s.size)] = t0 :: tr) := Lib.hid (by rw [← hts.out, ht0])
                      have HT0 := Lib.hid ht0
                      clear hsizes ht0
                      obtain ⟨f1, f2, f3, r0, fl, hrd0⟩ : ∃ f1 f2 f3 r0 fl, Rp.rd n t0.data.toList = (f1, f2, f3, r0, fl) := ⟨_, _, _, _, _, rfl⟩
                      have hread0 := fun W => rread_any n HCl.out t0 W hz0
                      rw [hrd0] at hread0
                      simp only [rdV] at hread0
                      have HBody := Lib.hid (tail_body (r := tr) hrd0)
                      clear hrd0 hz0
                      go_wp2_with (first | (go_at_call 28; (with_reducible refine (hcod _).mono ?_); rintro e w' ⟨rfl, hw⟩; have hw' := hw.symm; clear hw; subst hw') | (go_at_call 28; (with_reducible refine (hcod0 _).mono ?_); rintro e w' ⟨rfl, hw⟩; have hw' := hw.symm; clear hw; subst hw') | (go_at_call 20; (with_reducible refine (rclass_any _ _).mono ?_); rintro e w' ⟨rfl, hw⟩; have hw' := hw.symm; clear hw; subst hw') | (go_at_call 29; (with_reducible refine (hsh _).mono ?_); rintro e w' ⟨rfl, hw⟩; have hw' := hw.symm; clear hw; subst hw') | (at_builtin; refine app_strs rfl _ _ rfl w.heap.size _ _ k HLen.out (by rfl) (R.out.alloc _) (some ⟨wr.heap.size, 0, none⟩) 1 1 (by rfl) [(s.extract 4 s.size)] rfl (Strs.new wr [(s.extract 4 s.size)] 9) (by omega) (by omega) ((M.out.allocO (.cells #[.string (s.extract 4 s.size)] 9)).low.size) ?_; intro g cap w4 hrow4 hgrow4 _ _; have M4 := Aside.mk ((M.out.allocO (.cells #[.string (s.extract 4 s.size)] 9)).app (R.out.alloc _) hgrow4 (by simp)); have R4 := Aside.mk hrow4; clear M R hrow4 hgrow4; (try clear x0 x1 x2 x3 x4 u0 u1 u2 u3 u4 xl); have M := M4; clear M4; have RS : Aside (Strs w4 (some ⟨g, 0, none⟩) (t0 :: tr)) := ⟨by have h8 := R4.out.strs; rw [hts.out] at h8; exact h8⟩; have hq0 : w4.cell? ⟨g, 0, none⟩ = some (.string t0) := (RS.out.cellAt 0 (by simp)).1; have hgl := (RS.out.cellAt 0 (by simp)).2; have hne4 := R4.out.ne (M.out.own _ (List.mem_cons_self ..)).2 (show 25 ≠ 9 by decide); have HG : Aside (g ≠ w.heap.size) := ⟨fun q => hne4 (by rw [q]; rfl)⟩; have K : Aside (Kp w [(w4.heap.size, #[.int .i64 n, .int .i64 0, .int .i64 0, .int .i64 0, .slice (some ⟨g, 0, none⟩) (k + 1) cap], 25), (w.heap.size, #[.int .i64 0, .int .i64 0, .int .i64 0, .int .i64 0, .slice none 0 0], 25)] [(some ⟨g, 0, none⟩, t0 :: tr)] (w4.alloc (.cells #[.int .i64 n, .int .i64 0, .int .i64 0, .int .i64 0, .slice (some ⟨g, 0, none⟩) (k + 1) cap] 25))) := ⟨(Kp.ofMine M.out RS.out).blk #[.int .i64 n, .int .i64 0, .int .i64 0, .int .i64 0, .slice (some ⟨g, 0, none⟩) (k + 1) cap] 25⟩; have hwl := M.out.lt; clear M R4 RS hne4) | (go_at_call 30; (with_reducible refine (hread0 _).mono ?_); rintro e w5 ⟨rfl, hb⟩; have hw5 := hb.size; replace K := Aside.mk ((K.out.next hb).blk #[.int .i64 f1, .int .i64 f2, .int .i64 f3] 23); clear hb hq0 hgl))
                      obtain ⟨W1, hW1⟩ : ∃ W1, w5.alloc (.cells #[.int .i64 f1, .int .i64 f2, .int .i64 f3] 23) = W1 := ⟨_, rfl⟩
                      have hW1s : W1.heap.size = w5.heap.size + 1 := by rw [← hW1]; simp
                      rw [hW1] at K ⊢
                      clear hW1
                      (try clear x0 x1 x2 x3 x4 u0 u1 u2 u3 u4 xl)
                      go_loopw [12, 13, 14] (fun a v i wr => TlRel n f1 f2 f3 fl (t0 :: tr) W1 a v i wr) (fun _ _ i _ => k + 1 - (intOf i).toNat)
                      case atStart => exact ⟨0, none, 0, by omega, rfl, by simp, rfl, Row.nil _ _, Below.refl _ _⟩
                      case round =>
                        obtain ⟨j, B, c, hj, rfl, ha, rfl, hrow, hbel⟩ := hrel
                        have RB := Aside.mk hrow
                        have HB := Aside.mk hbel
                        clear hrow hbel
                        obtain ⟨av, hav⟩ : ∃ av, (fl && ((t0 :: tr).take j).all (Rp.good n (f1, f2, f3))) = av := ⟨_, rfl⟩
                        rw [hav] at ha
                        subst ha
                        have HA := Lib.hid hav
                        clear hav
                        rw [List.length_cons, hlt0] at hj
                        obtain ⟨z0, z1, z2, zl⟩ := blk3 ((K.out.next HB.out).own _ (List.mem_cons_self ..))
                        by_cases hjl : j < k + 1
                        · have hjt : j < (t0 :: tr).length := by rw [List.length_cons]; omega
                          obtain ⟨hqj, hgj⟩ := ((K.out.next HB.out).textm (show (some ⟨g, 0, none⟩, t0 :: tr) ∈ _ by simp)).cellAt j (by rw [List.length_cons]; omega)
                          have hszj := HSZ.out ((t0 :: tr)[j]'hjt) (List.getElem_mem _)
                          have HTj := Lib.hid (List.take_succ_eq_append_getElem (l := t0 :: tr) (i := j) (by rw [List.length_cons]; omega))
                          have HLj : Hid ((((t0 :: tr).take j).map (Rp.behind n)).length = j) := Lib.hid (by rw [List.length_map, List.length_take, List.length_cons]; omega)
                          generalize (t0 :: tr)[j]'hjt = tj at hqj hszj HTj
                          obtain ⟨e1, e2, e3, rj, fj, hrdj⟩ : ∃ e1 e2 e3 rj fj, Rp.rd n tj.data.toList = (e1, e2, e3, rj, fj) := ⟨_, _, _, _, _, rfl⟩
                          have hread := fun W => rread_any n HCl.out tj W hszj
                          rw [hrdj] at hread
                          simp only [rdV] at hread
                          have HGood : Hid (Rp.good n (f1, f2, f3) tj = (fj && same3 e1 e2 e3 f1 f2 f3)) := Lib.hid (by simp [Rp.good, hrdj, same3])
                          have Hbeh : Hid (Rp.behind n tj = ⟨rj.toArray⟩) := Lib.hid (by simp [Rp.behind, hrdj])
                          clear hrdj hszj
                          have hi4 : (j : Int) < (k : Int) + 1 := by omega
                          have hi5 : (0 : Int) ≤ (j : Int) := by omega
                          cases av with
                          | false =>
                            go_wp2_with (first | (go_at_call 30; (with_reducible refine (hread _).mono ?_); rintro e w6 ⟨rfl, hb⟩; replace RB := Aside.mk (RB.out.next hb); replace HB := Aside.mk (Below.next HB.out hb (Nat.le_refl _)); clear hb hqj hgj z0 z1 z2 zl; obtain ⟨z0, z1, z2, zl⟩ := blk3 ((K.out.next HB.out).own _ (List.mem_cons_self ..))) | (at_builtin; refine app_copy rfl _ _ rfl (W0 := W1) ((HB.out.alloc HB.out.size (.cells #[.int .i64 e1, .int .i64 e2, .int .i64 e3] 23)).alloc (HB.out.alloc HB.out.size _).size (.cells #[.string ⟨rj.toArray⟩] 9)) B j c _ HLj.out (by rfl) ((RB.out.alloc _).alloc _) (some ⟨w6.heap.size + 1, 0, none⟩) 1 1 (by rfl) [⟨rj.toArray⟩] rfl (by have h8 := Strs.new (w6.alloc (.cells #[.int .i64 e1, .int .i64 e2, .int .i64 e3] 23)) [(⟨rj.toArray⟩ : ByteArray)] 9; simpa using h8) (by omega) (j + 1) rfl _ rfl ?_; intro B2 c2 w7 hr7 hs7 hb7; have R7 := Aside.mk hr7; have B7 := Aside.mk hb7; clear hr7 hs7 hb7 RB HB))
                            go_roundw
                            case rel => exact ⟨j + 1, B2, c2, by rw [List.length_cons]; omega, by go_num, by rw [HTj.out, List.all_append, ← Bool.and_assoc, HA.out]; simp [HGood.out, Bool.false_and], rfl, by rw [HTj.out, List.map_append, List.map_singleton, Hbeh.out]; exact R7.out, B7.out⟩
                            case measure => simp [intOf]; omega
                          | true =>
                            cases fj with
                            | false =>
                              go_wp2_with (first | (go_at_call 30; (with_reducible refine (hread _).mono ?_); rintro e w6 ⟨rfl, hb⟩; replace RB := Aside.mk (RB.out.next hb); replace HB := Aside.mk (Below.next HB.out hb (Nat.le_refl _)); clear hb hqj hgj z0 z1 z2 zl; obtain ⟨z0, z1, z2, zl⟩ := blk3 ((K.out.next HB.out).own _ (List.mem_cons_self ..))) | (at_builtin; refine app_copy rfl _ _ rfl (W0 := W1) ((HB.out.alloc HB.out.size (.cells #[.int .i64 e1, .int .i64 e2, .int .i64 e3] 23)).alloc (HB.out.alloc HB.out.size _).size (.cells #[.string ⟨rj.toArray⟩] 9)) B j c _ HLj.out (by rfl) ((RB.out.alloc _).alloc _) (some ⟨w6.heap.size + 1, 0, none⟩) 1 1 (by rfl) [⟨rj.toArray⟩] rfl (by have h8 := Strs.new (w6.alloc (.cells #[.int .i64 e1, .int .i64 e2, .int .i64 e3] 23)) [(⟨rj.toArray⟩ : ByteArray)] 9; simpa using h8) (by omega) (j + 1) rfl _ rfl ?_; intro B2 c2 w7 hr7 hs7 hb7; have R7 := Aside.mk hr7; have B7 := Aside.mk hb7; clear hr7 hs7 hb7 RB HB))
                              go_roundw
                              case rel => exact ⟨j + 1, B2, c2, by rw [List.length_cons]; omega, by go_num, by rw [HTj.out, List.all_append, ← Bool.and_assoc, HA.out]; simp [HGood.out, Bool.false_and], rfl, by rw [HTj.out, List.map_append, List.map_singleton, Hbeh.out]; exact R7.out, B7.out⟩
                              case measure => simp [intOf]; omega
                            | true =>
                              obtain ⟨qv, hqv⟩ : ∃ qv, same3 e1 e2 e3 f1 f2 f3 = qv := ⟨_, rfl⟩
                              rw [hqv] at HGood
                              go_wp2_with (first | (go_at_call 30; (with_reducible refine (hread _).mono ?_); rintro e w6 ⟨rfl, hb⟩; replace RB := Aside.mk (RB.out.next hb); replace HB := Aside.mk (Below.next HB.out hb (Nat.le_refl _)); clear hb hqj hgj z0 z1 z2 zl; obtain ⟨z0, z1, z2, zl⟩ := blk3 ((K.out.next HB.out).own _ (List.mem_cons_self ..))) | (at_builtin; refine app_copy rfl _ _ rfl (W0 := W1) ((HB.out.alloc HB.out.size (.cells #[.int .i64 e1, .int .i64 e2, .int .i64 e3] 23)).alloc (HB.out.alloc HB.out.size _).size (.cells #[.string ⟨rj.toArray⟩] 9)) B j c _ HLj.out (by rfl) ((RB.out.alloc _).alloc _) (some ⟨w6.heap.size + 1, 0, none⟩) 1 1 (by rfl) [⟨rj.toArray⟩] rfl (by have h8 := Strs.new (w6.alloc (.cells #[.int .i64 e1, .int .i64 e2, .int .i64 e3] 23)) [(⟨rj.toArray⟩ : ByteArray)] 9; simpa using h8) (by omega) (j + 1) rfl _ rfl ?_; intro B2 c2 w7 hr7 hs7 hb7; have R7 := Aside.mk hr7; have B7 := Aside.mk hb7; clear hr7 hs7 hb7 RB HB))
                              go_roundw
                              case rel => exact ⟨j + 1, B2, c2, by rw [List.length_cons]; omega, by go_num, by rw [HTj.out, List.all_append, ← Bool.and_assoc, HA.out]; simp [HGood.out, Bool.true_and], rfl, by rw [HTj.out, List.map_append, List.map_singleton, Hbeh.out]; exact R7.out, B7.out⟩
                              case measure => simp [intOf]; omega
                        · obtain rfl : j = k + 1 := by omega
                          rw [List.take_of_length_le (by rw [List.length_cons]; omega)] at HA RB
                          rw [HA.out] at HBody
                          have hK := K.out.next HB.out
                          obtain ⟨p0, p1, p2, p3, p4, v0, v1, v2, v3, v4, pl⟩ := blk5 (hK.own _ (List.mem_cons_of_mem _ (List.mem_cons_self ..)))
                          obtain ⟨x0, x1, x2, x3, x4, u0, u1, u2, u3, u4, xl⟩ := blk5 (hK.own _ (List.mem_cons_of_mem _ (List.mem_cons_of_mem _ (List.mem_cons_self ..))))
                          have HS9 := Aside.mk (hK.textm (show (some ⟨g, 0, none⟩, t0 :: tr) ∈ _ by simp))
                          have HL9 := Aside.mk hK.low
                          clear hK
                          have hn1 : ¬ w4.heap.size = w.heap.size := by omega
                          have hn2 : ¬ w.heap.size = w4.heap.size := by omega
                          have hlow4 : w4.heap.size < W1.heap.size := by simp at hw5; omega
                          cases av with
                          | true =>
                            rw [if_pos rfl] at HBody
                            go_wp2
                            refine bodyPost_ret (v := .tuple #[.agg #[.int .i64 n, .int .i64 f1, .int .i64 f2, .int .i64 f3, .slice B (k + 1) c], .int .i64 ((k : Int) + 1), .int .i64 0]) (by simp [results, Tryd.results11, go_sem, x0, x1, x2, x3, x4]) rfl ?_
                            exact PsOut.good (by rw [HP.out, Rp.prs_last HBad.out HL.out, HC.out]) (by simp) (by rw [HT0.out]; exact HBody.out) (Strs.set9 RB.out.strs (fun b_ o_ e_ => by subst e_; have := (RB.out.lt b_ rfl).1; omega) (fun b_ o_ e_ => by subst e_; have := (RB.out.lt b_ rfl).1; omega) _ _ _ _ _ _ _ _ _) (low9 HL9.out (by omega) (Nat.le_refl _) _ _ _ _ _ _ _ _ _)
                          | false =>
                            rw [if_neg (by simp)] at HBody
                            go_wp2
                            refine bodyPost_ret (v := .tuple #[.agg #[.int .i64 n, .int .i64 0, .int .i64 0, .int .i64 0, .slice (some ⟨g, 0, none⟩) (k + 1) cap], .int .i64 ((k : Int) + 1), .int .i64 0]) (by simp [results, Tryd.results11, go_sem, x0, x1, x2, x3, x4]) rfl ?_
                            exact PsOut.good (by rw [HP.out, Rp.prs_last HBad.out HL.out, HC.out]) (by simp) (by rw [HT0.out]; exact HBody.out) (Strs.set5 HS9.out (fun b_ o_ e_ => by injection e_ with e_; injection e_ with e_ _ _; subst e_; exact HG.out) _ _ _ _ _) (low5 HL9.out (Nat.le_refl _) _ _ _ _ _)
                · have hlong : ¬ (510 : Int) < s.size := by omega
                  by_cases h32 : (32 : Int) ≤ (k : Int)
                  · have HBad : Hid (Rp.bad k cd s.data.toList = 3) := Lib.hid (Rp.bad_3 (by rw [HC.out]; exact HCl.out) HD.out HS0.out HV.out (by omega))
                    go_wp2_with (first | (go_at_call 28; (with_reducible refine (hcod _).mono ?_); rintro e w' ⟨rfl, hw⟩; have hw' := hw.symm; clear hw; subst hw') | (go_at_call 28; (with_reducible refine (hcod0 _).mono ?_); rintro e w' ⟨rfl, hw⟩; have hw' := hw.symm; clear hw; subst hw') | (go_at_call 20; (with_reducible refine (rclass_any _ _).mono ?_); rintro e w' ⟨rfl, hw⟩; have hw' := hw.symm; clear hw; subst hw') | (go_at_call 29; (with_reducible refine (hsh _).mono ?_); rintro e w' ⟨rfl, hw⟩; have hw' := hw.symm; clear hw; subst hw'))
                    all_goals
                      refine bodyPost_ret (v := .tuple #[.agg #[.int .i64 0, .int .i64 0, .int .i64 0, .int .i64 0, .slice none 0 0], .int .i64 0, .int .i64 3]) (by simp [results, Tryd.results11, go_sem, x0, x1, x2, x3, x4]) rfl ?_
                      exact PsOut.bad (HP.out.trans (Rp.prs_bad HBad.out (by decide))) (by decide) (low5 M.out.low (Nat.le_refl _) _ _ _ _ _)
                  · have HBad : Hid (Rp.bad k cd s.data.toList = 0) := Lib.hid (Rp.bad_0 (by rw [HC.out]; exact HCl.out) HD.out HS0.out HV.out (by omega) (by omega))
                    have HSay : Hid ((⟨#[]⟩ : ByteArray) = Rp.say s) := Lib.hid ((say_short (by omega)).symm)
                    have hts : Hid ((l.take (k + 1)).map Rp.say = (l.take k).map Rp.say ++ [(⟨#[]⟩ : ByteArray)]) := Lib.hid (by rw [HT.out, List.map_append, HSay.out]; rfl)
                    obtain ⟨t0, tr, ht0⟩ : ∃ t0 tr, (l.take (k + 1)).map Rp.say = t0 :: tr := by
                      cases hq : (l.take (k + 1)).map Rp.say with
                      | nil => have := congrArg List.length hq; rw [List.length_map, List.length_take, List.length_nil] at this; omega
                      | cons t0 tr => exact ⟨t0, tr, rfl⟩
                    have hsizes : ∀ q ∈ t0 :: tr, q.size ≤ 1000000 := by
                      rw [← ht0]; intro q hq; obtain ⟨p, hp, rfl⟩ := List.mem_map.1 hq; have h6 := Hs.out p (List.mem_of_mem_take hp); have h7 := Rp.say_size p; omega
                    have hlt0 : tr.length = k := by have := congrArg List.length ht0; rw [List.length_map, List.length_take, List.length_cons] at this; omega
                    have HSZ := Aside.mk hsizes
                    have hz0 := hsizes t0 (List.mem_cons_self ..)
                    replace hts : Hid ((l.take k).map Rp.say ++ [(⟨#[]⟩ : ByteArray)] = t0 :: tr) := Lib.hid (by rw [← hts.out, ht0])
                    have HT0 := Lib.hid ht0
                    clear hsizes ht0
                    obtain ⟨f1, f2, f3, r0, fl, hrd0⟩ : ∃ f1 f2 f3 r0 fl, Rp.rd n t0.data.toList = (f1, f2, f3, r0, fl) := ⟨_, _, _, _, _, rfl⟩
                    have hread0 := fun W => rread_any n HCl.out t0 W hz0
                    rw [hrd0] at hread0
                    simp only [rdV] at hread0
                    have HBody := Lib.hid (tail_body (r := tr) hrd0)
                    clear hrd0 hz0
                    go_wp2_with (first | (go_at_call 28; (with_reducible refine (hcod _).mono ?_); rintro e w' ⟨rfl, hw⟩; have hw' := hw.symm; clear hw; subst hw') | (go_at_call 28; (with_reducible refine (hcod0 _).mono ?_); rintro e w' ⟨rfl, hw⟩; have hw' := hw.symm; clear hw; subst hw') | (go_at_call 20; (with_reducible refine (rclass_any _ _).mono ?_); rintro e w' ⟨rfl, hw⟩; have hw' := hw.symm; clear hw; subst hw') | (go_at_call 29; (with_reducible refine (hsh _).mono ?_); rintro e w' ⟨rfl, hw⟩; have hw' := hw.symm; clear hw; subst hw') | (at_builtin; refine app_strs rfl _ _ rfl w.heap.size _ _ k HLen.out (by rfl) (R.out.alloc _) (some ⟨wr.heap.size, 0, none⟩) 1 1 (by rfl) [(⟨#[]⟩ : ByteArray)] rfl (Strs.new wr [(⟨#[]⟩ : ByteArray)] 9) (by omega) (by omega) ((M.out.allocO (.cells #[.string (⟨#[]⟩ : ByteArray)] 9)).low.size) ?_; intro g cap w4 hrow4 hgrow4 _ _; have M4 := Aside.mk ((M.out.allocO (.cells #[.string (⟨#[]⟩ : ByteArray)] 9)).app (R.out.alloc _) hgrow4 (by simp)); have R4 := Aside.mk hrow4; clear M R hrow4 hgrow4; (try clear x0 x1 x2 x3 x4 u0 u1 u2 u3 u4 xl); have M := M4; clear M4; have RS : Aside (Strs w4 (some ⟨g, 0, none⟩) (t0 :: tr)) := ⟨by have h8 := R4.out.strs; rw [hts.out] at h8; exact h8⟩; have hq0 : w4.cell? ⟨g, 0, none⟩ = some (.string t0) := (RS.out.cellAt 0 (by simp)).1; have hgl := (RS.out.cellAt 0 (by simp)).2; have hne4 := R4.out.ne (M.out.own _ (List.mem_cons_self ..)).2 (show 25 ≠ 9 by decide); have HG : Aside (g ≠ w.heap.size) := ⟨fun q => hne4 (by rw [q]; rfl)⟩; have K : Aside (Kp w [(w4.heap.size, #[.int .i64 n, .int .i64 0, .int .i64 0, .int .i64 0, .slice (some ⟨g, 0, none⟩) (k + 1) cap], 25), (w.heap.size, #[.int .i64 0, .int .i64 0, .int .i64 0, .int .i64 0, .slice none 0 0], 25)] [(some ⟨g, 0, none⟩, t0 :: tr)] (w4.alloc (.cells #[.int .i64 n, .int .i64 0, .int .i64 0, .int .i64 0, .slice (some ⟨g, 0, none⟩) (k + 1) cap] 25))) := ⟨(Kp.ofMine M.out RS.out).blk #[.int .i64 n, .int .i64 0, .int .i64 0, .int .i64 0, .slice (some ⟨g, 0, none⟩) (k + 1) cap] 25⟩; have hwl := M.out.lt; clear M R4 RS hne4) | (go_at_call 30; (with_reducible refine (hread0 _).mono ?_); rintro e w5 ⟨rfl, hb⟩; have hw5 := hb.size; replace K := Aside.mk ((K.out.next hb).blk #[.int .i64 f1, .int .i64 f2, .int .i64 f3] 23); clear hb hq0 hgl))
                    obtain ⟨W1, hW1⟩ : ∃ W1, w5.alloc (.cells #[.int .i64 f1, .int .i64 f2, .int .i64 f3] 23) = W1 := ⟨_, rfl⟩
                    have hW1s : W1.heap.size = w5.heap.size + 1 := by rw [← hW1]; simp
                    rw [hW1] at K ⊢
                    clear hW1
                    (try clear x0 x1 x2 x3 x4 u0 u1 u2 u3 u4 xl)
                    go_loopw [12, 13, 14] (fun a v i wr => TlRel n f1 f2 f3 fl (t0 :: tr) W1 a v i wr) (fun _ _ i _ => k + 1 - (intOf i).toNat)
                    case atStart => exact ⟨0, none, 0, by omega, rfl, by simp, rfl, Row.nil _ _, Below.refl _ _⟩
                    case round =>
                      obtain ⟨j, B, c, hj, rfl, ha, rfl, hrow, hbel⟩ := hrel
                      have RB := Aside.mk hrow
                      have HB := Aside.mk hbel
                      clear hrow hbel
                      obtain ⟨av, hav⟩ : ∃ av, (fl && ((t0 :: tr).take j).all (Rp.good n (f1, f2, f3))) = av := ⟨_, rfl⟩
                      rw [hav] at ha
                      subst ha
                      have HA := Lib.hid hav
                      clear hav
                      rw [List.length_cons, hlt0] at hj
                      obtain ⟨z0, z1, z2, zl⟩ := blk3 ((K.out.next HB.out).own _ (List.mem_cons_self ..))
                      by_cases hjl : j < k + 1
                      · have hjt : j < (t0 :: tr).length := by rw [List.length_cons]; omega
                        obtain ⟨hqj, hgj⟩ := ((K.out.next HB.out).textm (show (some ⟨g, 0, none⟩, t0 :: tr) ∈ _ by simp)).cellAt j (by rw [List.length_cons]; omega)
                        have hszj := HSZ.out ((t0 :: tr)[j]'hjt) (List.getElem_mem _)
                        have HTj := Lib.hid (List.take_succ_eq_append_getElem (l := t0 :: tr) (i := j) (by rw [List.length_cons]; omega))
                        have HLj : Hid ((((t0 :: tr).take j).map (Rp.behind n)).length = j) := Lib.hid (by rw [List.length_map, List.length_take, List.length_cons]; omega)
                        generalize (t0 :: tr)[j]'hjt = tj at hqj hszj HTj
                        obtain ⟨e1, e2, e3, rj, fj, hrdj⟩ : ∃ e1 e2 e3 rj fj, Rp.rd n tj.data.toList = (e1, e2, e3, rj, fj) := ⟨_, _, _, _, _, rfl⟩
                        have hread := fun W => rread_any n HCl.out tj W hszj
                        rw [hrdj] at hread
                        simp only [rdV] at hread
                        have HGood : Hid (Rp.good n (f1, f2, f3) tj = (fj && same3 e1 e2 e3 f1 f2 f3)) := Lib.hid (by simp [Rp.good, hrdj, same3])
                        have Hbeh : Hid (Rp.behind n tj = ⟨rj.toArray⟩) := Lib.hid (by simp [Rp.behind, hrdj])
                        clear hrdj hszj
                        have hi4 : (j : Int) < (k : Int) + 1 := by omega
                        have hi5 : (0 : Int) ≤ (j : Int) := by omega
                        cases av with
                        | false =>
                          go_wp2_with (first | (go_at_call 30; (with_reducible refine (hread _).mono ?_); rintro e w6 ⟨rfl, hb⟩; replace RB := Aside.mk (RB.out.next hb); replace HB := Aside.mk (Below.next HB.out hb (Nat.le_refl _)); clear hb hqj hgj z0 z1 z2 zl; obtain ⟨z0, z1, z2, zl⟩ := blk3 ((K.out.next HB.out).own _ (List.mem_cons_self ..))) | (at_builtin; refine app_copy rfl _ _ rfl (W0 := W1) ((HB.out.alloc HB.out.size (.cells #[.int .i64 e1, .int .i64 e2, .int .i64 e3] 23)).alloc (HB.out.alloc HB.out.size _).size (.cells #[.string ⟨rj.toArray⟩] 9)) B j c _ HLj.out (by rfl) ((RB.out.alloc _).alloc _) (some ⟨w6.heap.size + 1, 0, none⟩) 1 1 (by rfl) [⟨rj.toArray⟩] rfl (by have h8 := Strs.new (w6.alloc (.cells #[.int .i64 e1, .int .i64 e2, .int .i64 e3] 23)) [(⟨rj.toArray⟩ : ByteArray)] 9; simpa using h8) (by omega) (j + 1) rfl _ rfl ?_; intro B2 c2 w7 hr7 hs7 hb7; have R7 := Aside.mk hr7; have B7 := Aside.mk hb7; clear hr7 hs7 hb7 RB HB))
                          go_roundw
                          case rel => exact ⟨j + 1, B2, c2, by rw [List.length_cons]; omega, by go_num, by rw [HTj.out, List.all_append, ← Bool.and_assoc, HA.out]; simp [HGood.out, Bool.false_and], rfl, by rw [HTj.out, List.map_append, List.map_singleton, Hbeh.out]; exact R7.out, B7.out⟩
                          case measure => simp [intOf]; omega
                        | true =>
                          cases fj with
                          | false =>
                            go_wp2_with (first | (go_at_call 30; (with_reducible refine (hread _).mono ?_); rintro e w6 ⟨rfl, hb⟩; replace RB := Aside.mk (RB.out.next hb); replace HB := Aside.mk (Below.next HB.out hb (Nat.le_refl _)); clear hb hqj hgj z0 z1 z2 zl; obtain ⟨z0, z1, z2, zl⟩ := blk3 ((K.out.next HB.out).own _ (List.mem_cons_self ..))) | (at_builtin; refine app_copy rfl _ _ rfl (W0 := W1) ((HB.out.alloc HB.out.size (.cells #[.int .i64 e1, .int .i64 e2, .int .i64 e3] 23)).alloc (HB.out.alloc HB.out.size _).size (.cells #[.string ⟨rj.toArray⟩] 9)) B j c _ HLj.out (by rfl) ((RB.out.alloc _).alloc _) (some ⟨w6.heap.size + 1, 0, none⟩) 1 1 (by rfl) [⟨rj.toArray⟩] rfl (by have h8 := Strs.new (w6.alloc (.cells #[.int .i64 e1, .int .i64 e2, .int .i64 e3] 23)) [(⟨rj.toArray⟩ : ByteArray)] 9; simpa using h8) (by omega) (j + 1) rfl _ rfl ?_; intro B2 c2 w7 hr7 hs7 hb7; have R7 := Aside.mk hr7; have B7 := Aside.mk hb7; clear hr7 hs7 hb7 RB HB))
                            go_roundw
                            case rel => exact ⟨j + 1, B2, c2, by rw [List.length_cons]; omega, by go_num, by rw [HTj.out, List.all_append, ← Bool.and_assoc, HA.out]; simp [HGood.out, Bool.false_and], rfl, by rw [HTj.out, List.map_append, List.map_singleton, Hbeh.out]; exact R7.out, B7.out⟩
                            case measure => simp [intOf]; omega
                          | true =>
                            obtain ⟨qv, hqv⟩ : ∃ qv, same3 e1 e2 e3 f1 f2 f3 = qv := ⟨_, rfl⟩
                            rw [hqv] at HGood
                            go_wp2_with (first | (go_at_call 30; (with_reducible refine (hread _).mono ?_); rintro e w6 ⟨rfl, hb⟩; replace RB := Aside.mk (RB.out.next hb); replace HB := Aside.mk (Below.next HB.out hb (Nat.le_refl _)); clear hb hqj hgj z0 z1 z2 zl; obtain ⟨z0, z1, z2, zl⟩ := blk3 ((K.out.next HB.out).own _ (List.mem_cons_self ..))) | (at_builtin; refine app_copy rfl _ _ rfl (W0 := W1) ((HB.out.alloc HB.out.size (.cells #[.int .i64 e1, .int .i64 e2, .int .i64 e3] 23)).alloc (HB.out.alloc HB.out.size _).size (.cells #[.string ⟨rj.toArray⟩] 9)) B j c _ HLj.out (by rfl) ((RB.out.alloc _).alloc _) (some ⟨w6.heap.size + 1, 0, none⟩) 1 1 (by rfl) [⟨rj.toArray⟩] rfl (by have h8 := Strs.new (w6.alloc (.cells #[.int .i64 e1, .int .i64 e2, .int .i64 e3] 23)) [(⟨rj.toArray⟩ : ByteArray)] 9; simpa using h8) (by omega) (j + 1) rfl _ rfl ?_; intro B2 c2 w7 hr7 hs7 hb7; have R7 := Aside.mk hr7; have B7 := Aside.mk hb7; clear hr7 hs7 hb7 RB HB))
                            go_roundw
                            case rel => exact ⟨j + 1, B2, c2, by rw [List.length_cons]; omega, by go_num, by rw [HTj.out, List.all_append, ← Bool.and_assoc, HA.out]; simp [HGood.out, Bool.true_and], rfl, by rw [HTj.out, List.map_append, List.map_singleton, Hbeh.out]; exact R7.out, B7.out⟩
                            case measure => simp [intOf]; omega
                      · obtain rfl : j = k + 1 := by omega
                        rw [List.take_of_length_le (by rw [List.length_cons]; omega)] at HA RB
                        rw [HA.out] at HBody
                        have hK := K.out.next HB.out
                        obtain ⟨p0, p1, p2, p3, p4, v0, v1, v2, v3, v4, pl⟩ := blk5 (hK.own _ (List.mem_cons_of_mem _ (List.mem_cons_self ..)))
                        obtain ⟨x0, x1, x2, x3, x4, u0, u1, u2, u3, u4, xl⟩ := blk5 (hK.own _ (List.mem_cons_of_mem _ (List.mem_cons_of_mem _ (List.mem_cons_self ..))))
                        have HS9 := Aside.mk (hK.textm (show (some ⟨g, 0, none⟩, t0 :: tr) ∈ _ by simp))
                        have HL9 := Aside.mk hK.low
                        clear hK
                        have hn1 : ¬ w4.heap.size = w.heap.size := by omega
                        have hn2 : ¬ w.heap.size = w4.heap.size := by omega
                        have hlow4 : w4.heap.size < W1.heap.size := by simp at hw5; omega
                        cases av with
                        | true =>
                          rw [if_pos rfl] at HBody
                          go_wp2
                          refine bodyPost_ret (v := .tuple #[.agg #[.int .i64 n, .int .i64 f1, .int .i64 f2, .int .i64 f3, .slice B (k + 1) c], .int .i64 ((k : Int) + 1), .int .i64 0]) (by simp [results, Tryd.results11, go_sem, x0, x1, x2, x3, x4]) rfl ?_
                          exact PsOut.good (by rw [HP.out, Rp.prs_last HBad.out HL.out, HC.out]) (by simp) (by rw [HT0.out]; exact HBody.out) (Strs.set9 RB.out.strs (fun b_ o_ e_ => by subst e_; have := (RB.out.lt b_ rfl).1; omega) (fun b_ o_ e_ => by subst e_; have := (RB.out.lt b_ rfl).1; omega) _ _ _ _ _ _ _ _ _) (low9 HL9.out (by omega) (Nat.le_refl _) _ _ _ _ _ _ _ _ _)
                        | false =>
                          rw [if_neg (by simp)] at HBody
                          go_wp2
                          refine bodyPost_ret (v := .tuple #[.agg #[.int .i64 n, .int .i64 0, .int .i64 0, .int .i64 0, .slice (some ⟨g, 0, none⟩) (k + 1) cap], .int .i64 ((k : Int) + 1), .int .i64 0]) (by simp [results, Tryd.results11, go_sem, x0, x1, x2, x3, x4]) rfl ?_
                          exact PsOut.good (by rw [HP.out, Rp.prs_last HBad.out HL.out, HC.out]) (by simp) (by rw [HT0.out]; exact HBody.out) (Strs.set5 HS9.out (fun b_ o_ e_ => by injection e_ with e_; injection e_ with e_ _ _; subst e_; exact HG.out) _ _ _ _ _) (low5 HL9.out (Nat.le_refl _) _ _ _ _ _)
              · by_cases c45 : c = 45
                · subst c45
                  have HL : Hid (Rp.last s.data.toList = false) := Lib.hid (by rw [hxyz]; rfl)
                  have HS0 : Hid (Rp.sgn s.data.toList = false) := Lib.hid (by rw [hxyz]; rfl)
                  clear hxyz
                  by_cases h5 : (4 : Int) < s.size
                  · by_cases hlong : (510 : Int) < s.size
                    · have HBad : Hid (Rp.bad k cd s.data.toList = 3) := Lib.hid (Rp.bad_3 (by rw [HC.out]; exact HCl.out) HD.out HS0.out HV.out (by omega))
                      go_wp2_with (first | (go_at_call 28; (with_reducible refine (hcod _).mono ?_); rintro e w' ⟨rfl, hw⟩; have hw' := hw.symm; clear hw; subst hw') | (go_at_call 28; (with_reducible refine (hcod0 _).mono ?_); rintro e w' ⟨rfl, hw⟩; have hw' := hw.symm; clear hw; subst hw') | (go_at_call 20; (with_reducible refine (rclass_any _ _).mono ?_); rintro e w' ⟨rfl, hw⟩; have hw' := hw.symm; clear hw; subst hw') | (go_at_call 29; (with_reducible refine (hsh _).mono ?_); rintro e w' ⟨rfl, hw⟩; have hw' := hw.symm; clear hw; subst hw'))
                      all_goals
                        refine bodyPost_ret (v := .tuple #[.agg #[.int .i64 0, .int .i64 0, .int .i64 0, .int .i64 0, .slice none 0 0], .int .i64 0, .int .i64 3]) (by simp [results, Tryd.results11, go_sem, x0, x1, x2, x3, x4]) rfl ?_
                        exact PsOut.bad (HP.out.trans (Rp.prs_bad HBad.out (by decide))) (by decide) (low5 M.out.low (Nat.le_refl _) _ _ _ _ _)
                    · skip
                      by_cases h32 : (32 : Int) ≤ (k : Int)
                      · have HBad : Hid (Rp.bad k cd s.data.toList = 3) := Lib.hid (Rp.bad_3 (by rw [HC.out]; exact HCl.out) HD.out HS0.out HV.out (by omega))
                        go_wp2_with (first | (go_at_call 28; (with_reducible refine (hcod _).mono ?_); rintro e w' ⟨rfl, hw⟩; have hw' := hw.symm; clear hw; subst hw') | (go_at_call 28; (with_reducible refine (hcod0 _).mono ?_); rintro e w' ⟨rfl, hw⟩; have hw' := hw.symm; clear hw; subst hw') | (go_at_call 20; (with_reducible refine (rclass_any _ _).mono ?_); rintro e w' ⟨rfl, hw⟩; have hw' := hw.symm; clear hw; subst hw') | (go_at_call 29; (with_reducible refine (hsh _).mono ?_); rintro e w' ⟨rfl, hw⟩; have hw' := hw.symm; clear hw; subst hw'))
                        all_goals
                          refine bodyPost_ret (v := .tuple #[.agg #[.int .i64 0, .int .i64 0, .int .i64 0, .int .i64 0, .slice none 0 0], .int .i64 0, .int .i64 3]) (by simp [results, Tryd.results11, go_sem, x0, x1, x2, x3, x4]) rfl ?_
                          exact PsOut.bad (HP.out.trans (Rp.prs_bad HBad.out (by decide))) (by decide) (low5 M.out.low (Nat.le_refl _) _ _ _ _ _)
                      · have HBad : Hid (Rp.bad k cd s.data.toList = 0) := Lib.hid (Rp.bad_0 (by rw [HC.out]; exact HCl.out) HD.out HS0.out HV.out (by omega) (by omega))
                        have HSay : Hid ((s.extract 4 s.size) = Rp.say s) := Lib.hid (Rp.say_4 (by omega))
                        go_wp2_with (first | (go_at_call 28; (with_reducible refine (hcod _).mono ?_); rintro e w' ⟨rfl, hw⟩; have hw' := hw.symm; clear hw; subst hw') | (go_at_call 28; (with_reducible refine (hcod0 _).mono ?_); rintro e w' ⟨rfl, hw⟩; have hw' := hw.symm; clear hw; subst hw') | (go_at_call 20; (with_reducible refine (rclass_any _ _).mono ?_); rintro e w' ⟨rfl, hw⟩; have hw' := hw.symm; clear hw; subst hw') | (go_at_call 29; (with_reducible refine (hsh _).mono ?_); rintro e w' ⟨rfl, hw⟩; have hw' := hw.symm; clear hw; subst hw') | (at_builtin; refine app_strs rfl _ _ rfl w.heap.size _ _ k HLen.out (by rfl) (R.out.alloc _) (some ⟨wr.heap.size, 0, none⟩) 1 1 (by rfl) [(s.extract 4 s.size)] rfl (Strs.new wr [(s.extract 4 s.size)] 9) (by omega) (by omega) ((M.out.allocO (.cells #[.string (s.extract 4 s.size)] 9)).low.size) ?_; intro g cap w4 hrow4 hgrow4 _ _; have M4 := Aside.mk ((M.out.allocO (.cells #[.string (s.extract 4 s.size)] 9)).app (R.out.alloc _) hgrow4 (by simp)); have R4 := Aside.mk hrow4; clear M R hrow4 hgrow4; (try clear x0 x1 x2 x3 x4 u0 u1 u2 u3 u4 xl); have M := M4; clear M4; obtain ⟨x0, x1, x2, x3, x4, u0, u1, u2, u3, u4, xl⟩ := blk5 ((M.out.own _ (List.mem_cons_self ..)).2)))
                        go_roundw
                        case rel => exact ⟨k + 1, n, by omega, by go_num, by rw [HP.out, Rp.prs_more HBad.out HL.out, HC.out], fun _ s0 h => (HC00.out s0 h).symm, by rw [HT.out, List.map_append]; simpa [HSay.out] using R4.out, M.out⟩
                        case measure => simp [intOf]; omega
                  · have hlong : ¬ (510 : Int) < s.size := by omega
                    by_cases h32 : (32 : Int) ≤ (k : Int)
                    · have HBad : Hid (Rp.bad k cd s.data.toList = 3) := Lib.hid (Rp.bad_3 (by rw [HC.out]; exact HCl.out) HD.out HS0.out HV.out (by omega))
                      go_wp2_with (first | (go_at_call 28; (with_reducible refine (hcod _).mono ?_); rintro e w' ⟨rfl, hw⟩; have hw' := hw.symm; clear hw; subst hw') | (go_at_call 28; (with_reducible refine (hcod0 _).mono ?_); rintro e w' ⟨rfl, hw⟩; have hw' := hw.symm; clear hw; subst hw') | (go_at_call 20; (with_reducible refine (rclass_any _ _).mono ?_); rintro e w' ⟨rfl, hw⟩; have hw' := hw.symm; clear hw; subst hw') | (go_at_call 29; (with_reducible refine (hsh _).mono ?_); rintro e w' ⟨rfl, hw⟩; have hw' := hw.symm; clear hw; subst hw'))
                      all_goals
                        refine bodyPost_ret (v := .tuple #[.agg #[.int .i64 0, .int .i64 0, .int .i64 0, .int .i64 0, .slice none 0 0], .int .i64 0, .int .i64 3]) (by simp [results, Tryd.results11, go_sem, x0, x1, x2, x3, x4]) rfl ?_
                        exact PsOut.bad (HP.out.trans (Rp.prs_bad HBad.out (by decide))) (by decide) (low5 M.out.low (Nat.le_refl _) _ _ _ _ _)
                    · have HBad : Hid (Rp.bad k cd s.data.toList = 0) := Lib.hid (Rp.bad_0 (by rw [HC.out]; exact HCl.out) HD.out HS0.out HV.out (by omega) (by omega))
                      have HSay : Hid ((⟨#[]⟩ : ByteArray) = Rp.say s) := Lib.hid ((say_short (by omega)).symm)
                      go_wp2_with (first | (go_at_call 28; (with_reducible refine (hcod _).mono ?_); rintro e w' ⟨rfl, hw⟩; have hw' := hw.symm; clear hw; subst hw') | (go_at_call 28; (with_reducible refine (hcod0 _).mono ?_); rintro e w' ⟨rfl, hw⟩; have hw' := hw.symm; clear hw; subst hw') | (go_at_call 20; (with_reducible refine (rclass_any _ _).mono ?_); rintro e w' ⟨rfl, hw⟩; have hw' := hw.symm; clear hw; subst hw') | (go_at_call 29; (with_reducible refine (hsh _).mono ?_); rintro e w' ⟨rfl, hw⟩; have hw' := hw.symm; clear hw; subst hw') | (at_builtin; refine app_strs rfl _ _ rfl w.heap.size _ _ k HLen.out (by rfl) (R.out.alloc _) (some ⟨wr.heap.size, 0, none⟩) 1 1 (by rfl) [(⟨#[]⟩ : ByteArray)] rfl (Strs.new wr [(⟨#[]⟩ : ByteArray)] 9) (by omega) (by omega) ((M.out.allocO (.cells #[.string (⟨#[]⟩ : ByteArray)] 9)).low.size) ?_; intro g cap w4 hrow4 hgrow4 _ _; have M4 := Aside.mk ((M.out.allocO (.cells #[.string (⟨#[]⟩ : ByteArray)] 9)).app (R.out.alloc _) hgrow4 (by simp)); have R4 := Aside.mk hrow4; clear M R hrow4 hgrow4; (try clear x0 x1 x2 x3 x4 u0 u1 u2 u3 u4 xl); have M := M4; clear M4; obtain ⟨x0, x1, x2, x3, x4, u0, u1, u2, u3, u4, xl⟩ := blk5 ((M.out.own _ (List.mem_cons_self ..)).2)))
                      go_roundw
                      case rel => exact ⟨k + 1, n, by omega, by go_num, by rw [HP.out, Rp.prs_more HBad.out HL.out, HC.out], fun _ s0 h => (HC00.out s0 h).symm, by rw [HT.out, List.map_append]; simpa [HSay.out] using R4.out, M.out⟩
                      case measure => simp [intOf]; omega
                · have HS0 : Hid (Rp.sgn s.data.toList = true) := Lib.hid (by rw [hxyz]; simp [Rp.sgn, c32, c45])
                  have b32 : ((c.toNat : Int) == 32) = false := by simp only [beq_eq_false_iff_ne, ne_eq]; intro q; exact c32 (UInt8.toNat_inj.1 (by show c.toNat = 32; omega))
                  have b45 : ((c.toNat : Int) == 45) = false := by simp only [beq_eq_false_iff_ne, ne_eq]; intro q; exact c45 (UInt8.toNat_inj.1 (by show c.toNat = 45; omega))
                  have d32 : ((c.toNat : Int) != 32) = true := by simp only [bne, b32]; rfl
                  have d45 : ((c.toNat : Int) != 45) = true := by simp only [bne, b45]; rfl
                  have HBad : Hid (Rp.bad k cd s.data.toList = 2) := Lib.hid (Rp.bad_2 (.inr (.inr (.inl HS0.out))))
                  clear hxyz c32 c45
                  go_wp2_with (first | (go_at_call 28; (with_reducible refine (hcod _).mono ?_); rintro e w' ⟨rfl, hw⟩; have hw' := hw.symm; clear hw; subst hw') | (go_at_call 28; (with_reducible refine (hcod0 _).mono ?_); rintro e w' ⟨rfl, hw⟩; have hw' := hw.symm; clear hw; subst hw') | (go_at_call 20; (with_reducible refine (rclass_any _ _).mono ?_); rintro e w' ⟨rfl, hw⟩; have hw' := hw.symm; clear hw; subst hw') | (go_at_call 29; (with_reducible refine (hsh _).mono ?_); rintro e w' ⟨rfl, hw⟩; have hw' := hw.symm; clear hw; subst hw'))
                  all_goals
                    refine bodyPost_ret (v := .tuple #[.agg #[.int .i64 0, .int .i64 0, .int .i64 0, .int .i64 0, .slice none 0 0], .int .i64 0, .int .i64 2]) (by simp [results, Tryd.results11, go_sem, x0, x1, x2, x3, x4]) rfl ?_
                    exact PsOut.bad (HP.out.trans (Rp.prs_bad HBad.out (by decide))) (by decide) (low5 M.out.low (Nat.le_refl _) _ _ _ _ _)
    · have hke : k = l.length := by omega
      have hend : Rp.prs 0 0 l = (12, 0, 0) := by rw [hprs, List.drop_of_length_le (by omega)]; rfl
      clear hprs hcd
      have HP := Lib.hid hend
      clear hend
      subst hke
      go_wp2
      refine bodyPost_ret (v := .tuple #[.agg #[.int .i64 0, .int .i64 0, .int .i64 0, .int .i64 0, .slice none 0 0], .int .i64 0, .int .i64 12]) (by simp [results, Tryd.results11, go_sem, x0, x1, x2, x3, x4]) rfl ?_
      exact PsOut.bad HP.out (by decide) (low5 M.out.low (Nat.le_refl _) _ _ _ _ _)
end Go.Proofs.YtfeedokfcebjjaaDoor
