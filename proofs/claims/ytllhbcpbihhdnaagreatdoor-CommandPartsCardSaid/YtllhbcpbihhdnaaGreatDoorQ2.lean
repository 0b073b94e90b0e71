/-
  Where mail goes: letters.
  Where mail goes: atoms.
  Where mail goes: a domain.
  Where mail goes: a domain of any length; a text of labels.
  Where mail goes: Null, Right.
  A builder that is written while a block beside it is read.
  Where mail goes: the text between two quotes.
  Where mail goes: Print.
  strings.IndexRune at a rune of more than one byte, in the text "@>": there is none.
  strings.IndexAny at the signs "@>", in any text.
  Where mail goes: Parse, its parts.
  A literal slice of texts, guarded or not: taken whole.
  Structs of plain cells compared: field by field, each a truth value.
  In a region that draws its order: a row stored into a block, behind its first cells, as a step of its own; a row loaded out of a block's midst.
  What a law's row gives its walk: the library's own in memory, out of what the row lays, and the shapes.
-/
import Derived.Test.YtllhbcpbihhdnaaGreatDoorQ1
import Derived.Test.YtllhbcpbihhdnaaGreatDoorShelf
import Derived.Outline
import Derived.OwnWalk
import Derived.Laws.RangeAny
import Derived.Laws.Runes
import Derived.IntWalk
import Derived.WalkMore
import Derived.ScopeJumps
import Derived.Lib.OthersKept
import Derived.Lib.IndexAny
import Derived.Deep.WholeRow
import Derived.Test.YtllhbcpbihhdnaaGreatDoorProg
import Derived.Great.BuildSlice
import Derived.WalkKit
import Derived.Laws.StructEq
import Derived.Handed
import Derived.SizedLaws
import Derived.LaidMore
section
set_option linter.unusedVariables false
set_option linter.unusedSimpArgs false
namespace Go.Proofs.YtllhbcpbihhdnaaGreatDoor
open Go.RowKit Go.Shelf
set_option maxRecDepth 100000
theorem letter_0 (c : UInt8) (h : c.toNat < 48) (w : World) : Calls Tryz.prog 85 #[.int .u8 (c.toNat : Int)] w fun e w' => e = .returned (.bool false) ∧ w' = w := by
  have d0 : decide ((97 : Int) ≤ (c.toNat : Int)) = false := decide_eq_false (by omega)
  have d1 : decide ((c.toNat : Int) ≤ 122) = true := decide_eq_true (by omega)
  have d2 : decide ((65 : Int) ≤ (c.toNat : Int)) = false := decide_eq_false (by omega)
  have d3 : decide ((c.toNat : Int) ≤ 90) = true := decide_eq_true (by omega)
  have d4 : decide ((48 : Int) ≤ (c.toNat : Int)) = false := decide_eq_false (by omega)
  have d5 : decide ((c.toNat : Int) ≤ 57) = true := decide_eq_true (by omega)
  clear h
  go_enter Tryz.func85, Tryz.ntmps85
  go_wp2
  go_ret
  exact ⟨rfl, rfl⟩
theorem letter_1 (c : UInt8) (h : 48 ≤ c.toNat ∧ c.toNat ≤ 57) (w : World) : Calls Tryz.prog 85 #[.int .u8 (c.toNat : Int)] w fun e w' => e = .returned (.bool true) ∧ w' = w := by
  have d0 : decide ((97 : Int) ≤ (c.toNat : Int)) = false := decide_eq_false (by omega)
  have d1 : decide ((c.toNat : Int) ≤ 122) = true := decide_eq_true (by omega)
  have d2 : decide ((65 : Int) ≤ (c.toNat : Int)) = false := decide_eq_false (by omega)
  have d3 : decide ((c.toNat : Int) ≤ 90) = true := decide_eq_true (by omega)
  have d4 : decide ((48 : Int) ≤ (c.toNat : Int)) = true := decide_eq_true (by omega)
  have d5 : decide ((c.toNat : Int) ≤ 57) = true := decide_eq_true (by omega)
  clear h
  go_enter Tryz.func85, Tryz.ntmps85
  go_wp2
  go_ret
  exact ⟨rfl, rfl⟩
theorem letter_2 (c : UInt8) (h : 58 ≤ c.toNat ∧ c.toNat ≤ 64) (w : World) : Calls Tryz.prog 85 #[.int .u8 (c.toNat : Int)] w fun e w' => e = .returned (.bool false) ∧ w' = w := by
  have d0 : decide ((97 : Int) ≤ (c.toNat : Int)) = false := decide_eq_false (by omega)
  have d1 : decide ((c.toNat : Int) ≤ 122) = true := decide_eq_true (by omega)
  have d2 : decide ((65 : Int) ≤ (c.toNat : Int)) = false := decide_eq_false (by omega)
  have d3 : decide ((c.toNat : Int) ≤ 90) = true := decide_eq_true (by omega)
  have d4 : decide ((48 : Int) ≤ (c.toNat : Int)) = true := decide_eq_true (by omega)
  have d5 : decide ((c.toNat : Int) ≤ 57) = false := decide_eq_false (by omega)
  clear h
  go_enter Tryz.func85, Tryz.ntmps85
  go_wp2
  go_ret
  exact ⟨rfl, rfl⟩
theorem letter_3 (c : UInt8) (h : 65 ≤ c.toNat ∧ c.toNat ≤ 90) (w : World) : Calls Tryz.prog 85 #[.int .u8 (c.toNat : Int)] w fun e w' => e = .returned (.bool true) ∧ w' = w := by
  have d0 : decide ((97 : Int) ≤ (c.toNat : Int)) = false := decide_eq_false (by omega)
  have d1 : decide ((c.toNat : Int) ≤ 122) = true := decide_eq_true (by omega)
  have d2 : decide ((65 : Int) ≤ (c.toNat : Int)) = true := decide_eq_true (by omega)
  have d3 : decide ((c.toNat : Int) ≤ 90) = true := decide_eq_true (by omega)
  have d4 : decide ((48 : Int) ≤ (c.toNat : Int)) = true := decide_eq_true (by omega)
  have d5 : decide ((c.toNat : Int) ≤ 57) = false := decide_eq_false (by omega)
  clear h
  go_enter Tryz.func85, Tryz.ntmps85
  go_wp2
  go_ret
  exact ⟨rfl, rfl⟩
theorem letter_4 (c : UInt8) (h : 91 ≤ c.toNat ∧ c.toNat ≤ 96) (w : World) : Calls Tryz.prog 85 #[.int .u8 (c.toNat : Int)] w fun e w' => e = .returned (.bool false) ∧ w' = w := by
  have d0 : decide ((97 : Int) ≤ (c.toNat : Int)) = false := decide_eq_false (by omega)
  have d1 : decide ((c.toNat : Int) ≤ 122) = true := decide_eq_true (by omega)
  have d2 : decide ((65 : Int) ≤ (c.toNat : Int)) = true := decide_eq_true (by omega)
  have d3 : decide ((c.toNat : Int) ≤ 90) = false := decide_eq_false (by omega)
  have d4 : decide ((48 : Int) ≤ (c.toNat : Int)) = true := decide_eq_true (by omega)
  have d5 : decide ((c.toNat : Int) ≤ 57) = false := decide_eq_false (by omega)
  clear h
  go_enter Tryz.func85, Tryz.ntmps85
  go_wp2
  go_ret
  exact ⟨rfl, rfl⟩
theorem letter_5 (c : UInt8) (h : 97 ≤ c.toNat ∧ c.toNat ≤ 122) (w : World) : Calls Tryz.prog 85 #[.int .u8 (c.toNat : Int)] w fun e w' => e = .returned (.bool true) ∧ w' = w := by
  have d0 : decide ((97 : Int) ≤ (c.toNat : Int)) = true := decide_eq_true (by omega)
  have d1 : decide ((c.toNat : Int) ≤ 122) = true := decide_eq_true (by omega)
  have d2 : decide ((65 : Int) ≤ (c.toNat : Int)) = true := decide_eq_true (by omega)
  have d3 : decide ((c.toNat : Int) ≤ 90) = false := decide_eq_false (by omega)
  have d4 : decide ((48 : Int) ≤ (c.toNat : Int)) = true := decide_eq_true (by omega)
  have d5 : decide ((c.toNat : Int) ≤ 57) = false := decide_eq_false (by omega)
  clear h
  go_enter Tryz.func85, Tryz.ntmps85
  go_wp2
  go_ret
  exact ⟨rfl, rfl⟩
theorem letter_6 (c : UInt8) (h : 123 ≤ c.toNat) (w : World) : Calls Tryz.prog 85 #[.int .u8 (c.toNat : Int)] w fun e w' => e = .returned (.bool false) ∧ w' = w := by
  have d0 : decide ((97 : Int) ≤ (c.toNat : Int)) = true := decide_eq_true (by omega)
  have d1 : decide ((c.toNat : Int) ≤ 122) = false := decide_eq_false (by omega)
  have d2 : decide ((65 : Int) ≤ (c.toNat : Int)) = true := decide_eq_true (by omega)
  have d3 : decide ((c.toNat : Int) ≤ 90) = false := decide_eq_false (by omega)
  have d4 : decide ((48 : Int) ≤ (c.toNat : Int)) = true := decide_eq_true (by omega)
  have d5 : decide ((c.toNat : Int) ≤ 57) = false := decide_eq_false (by omega)
  clear h
  go_enter Tryz.func85, Tryz.ntmps85
  go_wp2
  go_ret
  exact ⟨rfl, rfl⟩
theorem letter_any (c : UInt8) (w : World) : Calls Tryz.prog 85 #[.int .u8 (c.toNat : Int)] w fun e w' => e = .returned (.bool (Txt.letter c)) ∧ w' = w := by
  have hl : ∀ b, (Txt.letter c = b ↔ decide (97 ≤ c.toNat ∧ c.toNat ≤ 122 ∨ 65 ≤ c.toNat ∧ c.toNat ≤ 90 ∨ 48 ≤ c.toNat ∧ c.toNat ≤ 57) = b) := fun b => Iff.rfl
  by_cases h0 : c.toNat < 48
  · rw [(hl false).2 (decide_eq_false (by omega))]; exact letter_0 c h0 w
  by_cases h1 : 48 ≤ c.toNat ∧ c.toNat ≤ 57
  · rw [(hl true).2 (decide_eq_true (by omega))]; exact letter_1 c h1 w
  by_cases h2 : 58 ≤ c.toNat ∧ c.toNat ≤ 64
  · rw [(hl false).2 (decide_eq_false (by omega))]; exact letter_2 c h2 w
  by_cases h3 : 65 ≤ c.toNat ∧ c.toNat ≤ 90
  · rw [(hl true).2 (decide_eq_true (by omega))]; exact letter_3 c h3 w
  by_cases h4 : 91 ≤ c.toNat ∧ c.toNat ≤ 96
  · rw [(hl false).2 (decide_eq_false (by omega))]; exact letter_4 c h4 w
  by_cases h5 : 97 ≤ c.toNat ∧ c.toNat ≤ 122
  · rw [(hl true).2 (decide_eq_true (by omega))]; exact letter_5 c h5 w
  rw [(hl false).2 (decide_eq_false (by omega))]; exact letter_6 c (by omega) w
end Go.Proofs.YtllhbcpbihhdnaaGreatDoor
end
section
set_option linter.unusedVariables false
set_option linter.unusedSimpArgs false
namespace Go.Proofs.YtllhbcpbihhdnaaGreatDoor
open Go.RowKit Go.Shelf
set_option maxRecDepth 100000
attribute [local go_sem] Oper.semAt_some
theorem undef_not {b : Bool} (h : some undef = some (Value.bool b)) : False := by
  have := Option.some.inj h
  simp [undef] at this
theorem at_skip {n : Nat} {p : Prop} (h : p) : Fence.wide.fn n ∧ p := ⟨trivial, h⟩
/-- What stands between two parts. -/
structure AtS (H : Nat) (w : World) (v : Bool) (W : World) : Prop where
  ok : Blk W H #[.bool v] 4
  low : Chg (fun k => H ≤ k) w W
  sz : H + 4 ≤ W.heap.size
theorem AtS.chg {H : Nat} {w : World} {v : Bool} {W W' : World} {K : Nat → Prop} (h : AtS H w v W) (k : Chg K W W') (hk : ∀ i, K i → H + 1 ≤ i) : AtS H w v W' :=
  ⟨h.ok.chg k (fun q => by have := hk _ q; omega), h.low.trans k (fun i _ q => by have := hk i q; omega), Nat.le_trans h.sz k.size⟩
def atOk (a : ByteArray) : Bool := Pt.atomOk a.data.toList
/-- In the midst of a part. -/
structure AtL (H B : Nat) (x : ByteArray) (u : Bool) (W wr : World) : Prop where
  ok : Blk wr H #[.bool u] 4
  bytes : ∀ j, j < x.size → wr.cell? ⟨B, j, none⟩ = some (.int .u8 ((x.data.toList.getD j 0).toNat : Int))
  low : Chg (fun k => k = H) W wr
theorem AtL.set {H B : Nat} {x : ByteArray} {u : Bool} {W wr : World} (h : AtL H B x u W wr) (hne : H ≠ B) (u' : Bool) : AtL H B x u' W (wr.setCell ⟨H, 0, none⟩ (.bool u')) :=
  ⟨by simpa using h.ok.set 0 (.bool u'), fun j hj => by rw [World.cell?_setCell_other _ _ _ _ (by intro q; injection q; omega)]; exact h.bytes j hj, h.low.setCell (fun _ => rfl) _⟩
theorem take_all (x : ByteArray) (k : Nat) (h : k < x.size) (c : UInt8) (hc : x.data.toList.getD k 0 = c) : (x.data.toList.take (k + 1)).all Pt.atomB = ((x.data.toList.take k).all Pt.atomB && Pt.atomB c) := by
  have hl : k < x.data.toList.length := by simpa using h
  rw [List.take_succ_eq_append_getElem hl, List.all_append, ← hc, List.getD_eq_getElem?_getD, List.getElem?_eq_getElem hl]
  simp
theorem idx_sign (c : UInt8) (W : World) : Calls Tryz.prog 86 #[.string ⟨#[33, 35, 36, 37, 38, 39, 42, 43, 45, 47, 61, 63, 94, 95, 124, 126, 96, 123, 125]⟩, .int .u8 (c.toNat : Int)] W fun e w' => e = .returned (.int .i64 (Lib.indexByte Pt.signsL c)) ∧ w' = W := by
  have := Tryz.strings_IndexByte ⟨#[33, 35, 36, 37, 38, 39, 42, 43, 45, 47, 61, 63, 94, 95, 124, 126, 96, 123, 125]⟩ (c.toNat : Int) W
  have hb : ((c.toNat : Int)).toNat.toUInt8 = c := by simp
  rw [hb] at this
  exact this
theorem at_next {H : Nat} {w : World} {v : Bool} {pre : List ByteArray} {x : ByteArray} {W wr : World} {e : Bool} (h : AtS H w v W) (hp : (pre ++ [x]).all atOk = (v && atOk x)) (hl : AtL H W.heap.size x (e && x.data.toList.all Pt.atomB) W wr) (he : (v && !x.toList.isEmpty) = e) : AtS H w ((pre ++ [x]).all atOk) wr := by
  have e2 : (v && atOk x) = (e && x.data.toList.all Pt.atomB) := by
    rw [← he, Lib.toList_data]
    unfold atOk Pt.atomOk
    rw [Bool.and_assoc]
  rw [hp, e2]
  exact ⟨hl.ok, h.low.trans hl.low (fun i _ q => by omega), Nat.le_trans h.sz hl.low.size⟩
def AtI (H : Nat) (w : World) (pre : List ByteArray) (W : World) : Prop := AtS H w (pre.all atOk) W
theorem atoms_parts (s : ByteArray) : (parts 46 s).all atOk = Pt.atoms s.data.toList := by
  unfold parts Pt.atoms
  rw [List.all_map]
  congr 1
set_option maxHeartbeats 4000000 in
theorem atoms_any (s : ByteArray) (hm : s.size ≤ 100000000) (w : World) : Calls Tryz.prog 35 #[.string s] w fun e w' => e = .returned (.bool (Pt.atoms s.data.toList)) ∧ Below w.heap.size w w' := by
  refine (callsIn_wide (n := 3)).1 ?_
  refine callsIn_of_wp_marks Tryz.func35 rfl trivial ?_ rfl
  simp only [Tryz.ntmps35, List.size_toArray, List.length_cons, List.length_nil, Nat.reduceAdd, Nat.reduceSub, Array.replicate_succ, Array.replicate_zero, List.push_toArray, List.append_toArray, List.nil_append, List.cons_append]
  gi_wp2_with ((first | refine ⟨trivial, fun h_ => absurd h_ (by simp [Fence.wide]), ?_⟩ | refine ⟨trivial, ?_⟩); gi_at_call 84; refine (callsIn_wide.2 (splitSeq_any s ⟨#[46]⟩ _)).mono ?_; rintro e w' ⟨rfl, hw⟩; have hw' := hw.symm; clear hw; subst hw')
  obtain ⟨H, hH⟩ : ∃ H, w.heap.size = H := ⟨_, rfl⟩
  simp only [hH, Nat.add_assoc, Nat.reduceAdd]
  obtain ⟨W0, hW0⟩ : ∃ W0, ((((w.alloc (Obj.cells #[Value.bool true] 4)).alloc (Obj.cells #[Value.string s] 9)).alloc (Obj.cells #[Value.string { data := #[46] }] 9)).alloc (Obj.cells #[Value.int IntKind.i64 0] 3)) = W0 := ⟨_, rfl⟩
  rw [hW0]
  have hsz : W0.heap.size = H + 4 := by rw [← hW0]; simp [hH]
  have hgr : Chg (fun k => H ≤ k) w W0 := by
    rw [← hW0]
    exact ((((Chg.refl _ w).alloc _).alloc _).alloc _).alloc _
  have hat : ∀ k (o : Obj), (#[Obj.cells #[Value.bool true] 4, Obj.cells #[Value.string s] 9, Obj.cells #[Value.string { data := #[46] }] 9, Obj.cells #[Value.int IntKind.i64 0] 3] : Array Obj)[k]? = some o → W0.heap[H + k]? = some o := by
    intro k o hk
    have : W0.heap = w.heap ++ #[Obj.cells #[Value.bool true] 4, Obj.cells #[Value.string s] 9, Obj.cells #[Value.string { data := #[46] }] 9, Obj.cells #[Value.int IntKind.i64 0] 3] := by
      rw [← hW0]
      show (((w.heap.push _).push _).push _).push _ = _
      apply Array.ext'
      simp only [Array.toList_push, Array.toList_append, List.append_assoc, List.cons_append, List.nil_append]
    rw [this, Array.getElem?_append, if_neg (by omega), hH, Nat.add_sub_cancel_left]
    exact hk
  have HI : AtI H w [] W0 := ⟨hat 0 _ rfl, hgr, by omega⟩
  have hA0 : SplAt (H + 1) 46 s W0 := ⟨hat 1 _ rfl, hat 2 _ rfl, hat 3 _ rfl⟩
  clear hat hgr hW0
  refine range_cells rfl (by omega) (gf := 133) (lb := #[.pointer (some ⟨H + 2, 0, none⟩), .pointer (some ⟨H + 1, 0, none⟩), .pointer (some ⟨H + 3, 0, none⟩)]) rfl trivial (enters_of Tryz.func133 (by kernel_rfl) rfl)
    (splitSeq_stops (H + 1) 46 s 2 W0 (by omega) (by omega) hA0) (fun h k => h.trans k) (fun W l o' hl k h1 h2 => World.putObj_heap_other (by omega)) (fun A B h => by obtain ⟨v, rfl⟩ := h; exact KeepsOthers.setCell _ _ _) (Below.refl _ _) (fun _ => rfl)
    (AtI H w) (fun _ _ _ => False) (fun s_ A B row hs_ hg hr_ => hs_.chg (chg_grown hg hr_) (fun i q => by omega)) (fun s_ A B hs_ ht => by obtain ⟨v, rfl⟩ := ht; exact hs_.chg ((Chg.refl (fun k => k = H + 1) A).setCell (fun _ => rfl) v) (fun i q => by omega))
    (fun cd s_ A B row hs_ hg hr_ => hs_.elim) HI
    (fun x => { tmps := #[Value.string s, undef, Value.bool false, Value.pointer (some { block := H, off := 0 }), .string x, undef, undef, Value.string s, Value.func (Fn.func 133) #[] #[.pointer (some ⟨H + 2, 0, none⟩), .pointer (some ⟨H + 1, 0, none⟩), .pointer (some ⟨H + 3, 0, none⟩)], .string x, undef, undef, undef, undef, undef, undef, undef, undef, undef, undef, undef, undef, undef, undef, undef, undef, undef, undef, undef, undef, undef, undef, undef, undef], defers := [] }) ?assign ?body ?done ?stop
  case assign =>
    intro l x W K hK
    gi_wp2
    exact hK
  case body =>
    rintro l pre x W hI hpre
    have hxm : x ∈ parts 46 s := hpre.subset (by simp)
    have hxs := parts_size 46 s x hxm
    have HP := Aside.mk (show (pre ++ [x]).all atOk = (pre.all atOk && atOk x) by simp)
    unfold AtI at hI
    obtain ⟨v, hv⟩ : ∃ v, pre.all atOk = v := ⟨_, rfl⟩
    rw [hv] at hI HP
    have z0 := hI.ok.cell 0 (.bool v) rfl
    have y0 := hI.ok.free 0
    have kb := fun W => Lib.run_convert_string_bytes (P := Tryz.prog) W 9 40 5 x Tryz.underlying9 Tryz.underlying40 Tryz.underlying5
    have SI := Aside.mk hI
    clear hI hv hpre hxm HI hA0
    cases v with
    | false =>
      gi_wp2
      obtain ⟨e1, he1⟩ : ∃ e, false = e := ⟨_, rfl⟩
      have hl1 : AtL H W.heap.size x (e1 && (x.data.toList.take 0).all Pt.atomB) W (Lib.bytesWorld (W.setCell ⟨H, 0, none⟩ (.bool e1)) 5 x) := ⟨by simpa using (SI.out.ok.set 0 (.bool e1)).bytes _ _, fun j hj => by have := Lib.bytesWorld_cell (W.setCell ⟨H, 0, none⟩ (.bool e1)) 5 x j hj; simpa using this, ((Chg.refl (fun k => k = H) W).setCell (p := ⟨H, 0, none⟩) (fun _ => rfl) _).bytes _ _⟩
      subst he1
      obtain ⟨W1, hW1⟩ : ∃ W1, Lib.bytesWorld (W.setCell ⟨H, 0, none⟩ (.bool false)) 5 x = W1 := ⟨_, rfl⟩
      rw [hW1] at hl1 ⊢
      clear hW1 z0 y0
      gi_loopw [18] (fun i wr => ∃ k : Nat, k ≤ x.size ∧ i = .int .i64 k ∧ AtL H W.heap.size x (false && (x.data.toList.take k).all Pt.atomB) W wr) (fun i _ => x.size - (intOf i).toNat)
      case atStart => exact ⟨0, by omega, rfl, hl1⟩
      case round =>
        clear hl1
        obtain ⟨k, hk, rfl, hL⟩ := hrel
        by_cases hlt : k < x.size
        · obtain ⟨ch, hch⟩ : ∃ c, x.data.toList.getD k 0 = c := ⟨_, rfl⟩
          have hT := take_all x k hlt ch hch
          obtain ⟨u, hu⟩ : ∃ u, (false && (x.data.toList.take k).all Pt.atomB) = u := ⟨_, rfl⟩
          rw [hu] at hL
          have zc := hL.bytes k hlt
          rw [hch] at zc
          have z0 := hL.ok.cell 0 (.bool u) rfl
          have y0 := hL.ok.free 0
          have HN : Aside ((false && (x.data.toList.take (k + 1)).all Pt.atomB) = (u && Pt.atomB ch)) := ⟨by rw [hT, ← Bool.and_assoc, hu]⟩
          have LL := Aside.mk hL
          have hne := Nat.ne_of_lt (Nat.lt_of_lt_of_le (Nat.lt_of_lt_of_le (Nat.lt_succ_self H) (Nat.le_add_right (H + 1) 3)) SI.out.sz)
          have HNE := Aside.mk hne
          clear hL hu hT hch hne
          have hcr := ch.toNat_lt
          have hlet := fun W => letter_any ch W
          have hix := fun W => idx_sign ch W
          cases u with
          | false =>
            gi_wp2_with (first | ((first | refine ⟨trivial, fun h_ => absurd h_ (by simp [Fence.wide, Fence.inRound]), ?_⟩ | refine ⟨trivial, ?_⟩); gi_at_call 85; refine (CallsIn.inRound l (callsIn_wide.2 (hlet _))).mono ?_; rintro e w1 ⟨rfl, hw⟩; have hw' := hw.symm; clear hw; subst hw') | ((first | refine ⟨trivial, fun h_ => absurd h_ (by simp [Fence.wide, Fence.inRound]), ?_⟩ | refine ⟨trivial, ?_⟩); gi_at_call 86; refine (CallsIn.inRound l (callsIn_wide.2 (hix _))).mono ?_; rintro e w1 ⟨rfl, hw⟩; have hw' := hw.symm; clear hw; subst hw') | (with_reducible refine at_skip ?_))
            all_goals try (exfalso; rename_i hA_ hB_; exact undef_not hA_)
            go_roundw
            case rel => exact ⟨k + 1, by omega, by go_num, by rw [HN.out, Bool.false_and]; exact LL.out.set HNE.out _⟩
            case measure => first | (simp [intOf]; done) | (simp [intOf]; omega)
          | true =>
            obtain ⟨lt, hlt2⟩ : ∃ t, Txt.letter ch = t := ⟨_, rfl⟩
            rw [hlt2] at hlet
            obtain ⟨sg, hsg⟩ : ∃ t, Pt.sgn ch = t := ⟨_, rfl⟩
            have HV : Aside (Pt.atomB ch = (lt || sg)) := ⟨by unfold Pt.atomB; rw [hlt2, hsg]⟩
            unfold Pt.sgn at hsg
            generalize Lib.indexByte Pt.signsL ch = ix at hix hsg
            clear hlt2
            cases lt with
            | true =>
              gi_wp2_with (first | ((first | refine ⟨trivial, fun h_ => absurd h_ (by simp [Fence.wide, Fence.inRound]), ?_⟩ | refine ⟨trivial, ?_⟩); gi_at_call 85; refine (CallsIn.inRound l (callsIn_wide.2 (hlet _))).mono ?_; rintro e w1 ⟨rfl, hw⟩; have hw' := hw.symm; clear hw; subst hw') | ((first | refine ⟨trivial, fun h_ => absurd h_ (by simp [Fence.wide, Fence.inRound]), ?_⟩ | refine ⟨trivial, ?_⟩); gi_at_call 86; refine (CallsIn.inRound l (callsIn_wide.2 (hix _))).mono ?_; rintro e w1 ⟨rfl, hw⟩; have hw' := hw.symm; clear hw; subst hw') | (with_reducible refine at_skip ?_))
              all_goals try (exfalso; rename_i hA_ hB_; exact undef_not hA_)
              go_roundw
              case rel => exact ⟨k + 1, by omega, by go_num, by rw [HN.out, HV.out]; exact LL.out.set HNE.out _⟩
              case measure => first | (simp [intOf]; done) | (simp [intOf]; omega)
            | false =>
              cases sg with
              | false =>
                gi_wp2_with (first | ((first | refine ⟨trivial, fun h_ => absurd h_ (by simp [Fence.wide, Fence.inRound]), ?_⟩ | refine ⟨trivial, ?_⟩); gi_at_call 85; refine (CallsIn.inRound l (callsIn_wide.2 (hlet _))).mono ?_; rintro e w1 ⟨rfl, hw⟩; have hw' := hw.symm; clear hw; subst hw') | ((first | refine ⟨trivial, fun h_ => absurd h_ (by simp [Fence.wide, Fence.inRound]), ?_⟩ | refine ⟨trivial, ?_⟩); gi_at_call 86; refine (CallsIn.inRound l (callsIn_wide.2 (hix _))).mono ?_; rintro e w1 ⟨rfl, hw⟩; have hw' := hw.symm; clear hw; subst hw') | (with_reducible refine at_skip ?_))
                all_goals try (exfalso; rename_i hA_ hB_; exact undef_not hA_)
                go_roundw
                case rel => exact ⟨k + 1, by omega, by go_num, by rw [HN.out, HV.out]; exact LL.out.set HNE.out _⟩
                case measure => first | (simp [intOf]; done) | (simp [intOf]; omega)
              | true =>
                gi_wp2_with (first | ((first | refine ⟨trivial, fun h_ => absurd h_ (by simp [Fence.wide, Fence.inRound]), ?_⟩ | refine ⟨trivial, ?_⟩); gi_at_call 85; refine (CallsIn.inRound l (callsIn_wide.2 (hlet _))).mono ?_; rintro e w1 ⟨rfl, hw⟩; have hw' := hw.symm; clear hw; subst hw') | ((first | refine ⟨trivial, fun h_ => absurd h_ (by simp [Fence.wide, Fence.inRound]), ?_⟩ | refine ⟨trivial, ?_⟩); gi_at_call 86; refine (CallsIn.inRound l (callsIn_wide.2 (hix _))).mono ?_; rintro e w1 ⟨rfl, hw⟩; have hw' := hw.symm; clear hw; subst hw') | (with_reducible refine at_skip ?_))
                all_goals try (exfalso; rename_i hA_ hB_; exact undef_not hA_)
                go_roundw
                case rel => exact ⟨k + 1, by omega, by go_num, by rw [HN.out, HV.out]; exact LL.out.set HNE.out _⟩
                case measure => first | (simp [intOf]; done) | (simp [intOf]; omega)
        · have hke : k = x.size := by omega
          subst hke
          rw [List.take_of_length_le (show x.data.toList.length ≤ x.size by simp)] at hL
          gi_wp2
          exact ⟨keepsFrom_chg hL.low (fun _ q => by omega), splKp_chg hL.low (fun _ q => by omega) (by have := SI.out.sz; omega), at_next SI.out HP.out hL (by rfl)⟩
    | true =>
      gi_wp2
      obtain ⟨e1, he1⟩ : ∃ e, (!x.toList.isEmpty) = e := ⟨_, rfl⟩
      rw [he1]
      have hl1 : AtL H W.heap.size x (e1 && (x.data.toList.take 0).all Pt.atomB) W (Lib.bytesWorld (W.setCell ⟨H, 0, none⟩ (.bool e1)) 5 x) := ⟨by simpa using (SI.out.ok.set 0 (.bool e1)).bytes _ _, fun j hj => by have := Lib.bytesWorld_cell (W.setCell ⟨H, 0, none⟩ (.bool e1)) 5 x j hj; simpa using this, ((Chg.refl (fun k => k = H) W).setCell (p := ⟨H, 0, none⟩) (fun _ => rfl) _).bytes _ _⟩
      obtain ⟨W1, hW1⟩ : ∃ W1, Lib.bytesWorld (W.setCell ⟨H, 0, none⟩ (.bool e1)) 5 x = W1 := ⟨_, rfl⟩
      rw [hW1] at hl1 ⊢
      clear hW1 z0 y0
      gi_loopw [18] (fun i wr => ∃ k : Nat, k ≤ x.size ∧ i = .int .i64 k ∧ AtL H W.heap.size x (e1 && (x.data.toList.take k).all Pt.atomB) W wr) (fun i _ => x.size - (intOf i).toNat)
      case atStart => exact ⟨0, by omega, rfl, hl1⟩
      case round =>
        clear hl1
        obtain ⟨k, hk, rfl, hL⟩ := hrel
        by_cases hlt : k < x.size
        · obtain ⟨ch, hch⟩ : ∃ c, x.data.toList.getD k 0 = c := ⟨_, rfl⟩
          have hT := take_all x k hlt ch hch
          obtain ⟨u, hu⟩ : ∃ u, (e1 && (x.data.toList.take k).all Pt.atomB) = u := ⟨_, rfl⟩
          rw [hu] at hL
          have zc := hL.bytes k hlt
          rw [hch] at zc
          have z0 := hL.ok.cell 0 (.bool u) rfl
          have y0 := hL.ok.free 0
          have HN : Aside ((e1 && (x.data.toList.take (k + 1)).all Pt.atomB) = (u && Pt.atomB ch)) := ⟨by rw [hT, ← Bool.and_assoc, hu]⟩
          have LL := Aside.mk hL
          have hne := Nat.ne_of_lt (Nat.lt_of_lt_of_le (Nat.lt_of_lt_of_le (Nat.lt_succ_self H) (Nat.le_add_right (H + 1) 3)) SI.out.sz)
          have HNE := Aside.mk hne
          clear hL hu hT hch hne
          have hcr := ch.toNat_lt
          have hlet := fun W => letter_any ch W
          have hix := fun W => idx_sign ch W
          cases u with
          | false =>
            gi_wp2_with (first | ((first | refine ⟨trivial, fun h_ => absurd h_ (by simp [Fence.wide, Fence.inRound]), ?_⟩ | refine ⟨trivial, ?_⟩); gi_at_call 85; refine (CallsIn.inRound l (callsIn_wide.2 (hlet _))).mono ?_; rintro e w1 ⟨rfl, hw⟩; have hw' := hw.symm; clear hw; subst hw') | ((first | refine ⟨trivial, fun h_ => absurd h_ (by simp [Fence.wide, Fence.inRound]), ?_⟩ | refine ⟨trivial, ?_⟩); gi_at_call 86; refine (CallsIn.inRound l (callsIn_wide.2 (hix _))).mono ?_; rintro e w1 ⟨rfl, hw⟩; have hw' := hw.symm; clear hw; subst hw') | (with_reducible refine at_skip ?_))
            all_goals try (exfalso; rename_i hA_ hB_; exact undef_not hA_)
            go_roundw
            case rel => exact ⟨k + 1, by omega, by go_num, by rw [HN.out, Bool.false_and]; exact LL.out.set HNE.out _⟩
            case measure => first | (simp [intOf]; done) | (simp [intOf]; omega)
          | true =>
            obtain ⟨lt, hlt2⟩ : ∃ t, Txt.letter ch = t := ⟨_, rfl⟩
            rw [hlt2] at hlet
            obtain ⟨sg, hsg⟩ : ∃ t, Pt.sgn ch = t := ⟨_, rfl⟩
            have HV : Aside (Pt.atomB ch = (lt || sg)) := ⟨by unfold Pt.atomB; rw [hlt2, hsg]⟩
            unfold Pt.sgn at hsg
            generalize Lib.indexByte Pt.signsL ch = ix at hix hsg
            clear hlt2
            cases lt with
            | true =>
              gi_wp2_with (first | ((first | refine ⟨trivial, fun h_ => absurd h_ (by simp [Fence.wide, Fence.inRound]), ?_⟩ | refine ⟨trivial, ?_⟩); gi_at_call 85; refine (CallsIn.inRound l (callsIn_wide.2 (hlet _))).mono ?_; rintro e w1 ⟨rfl, hw⟩; have hw' := hw.symm; clear hw; subst hw') | ((first | refine ⟨trivial, fun h_ => absurd h_ (by simp [Fence.wide, Fence.inRound]), ?_⟩ | refine ⟨trivial, ?_⟩); gi_at_call 86; refine (CallsIn.inRound l (callsIn_wide.2 (hix _))).mono ?_; rintro e w1 ⟨rfl, hw⟩; have hw' := hw.symm; clear hw; subst hw') | (with_reducible refine at_skip ?_))
              all_goals try (exfalso; rename_i hA_ hB_; exact undef_not hA_)
              go_roundw
              case rel => exact ⟨k + 1, by omega, by go_num, by rw [HN.out, HV.out]; exact LL.out.set HNE.out _⟩
              case measure => first | (simp [intOf]; done) | (simp [intOf]; omega)
            | false =>
              cases sg with
              | false =>
                gi_wp2_with (first | ((first | refine ⟨trivial, fun h_ => absurd h_ (by simp [Fence.wide, Fence.inRound]), ?_⟩ | refine ⟨trivial, ?_⟩); gi_at_call 85; refine (CallsIn.inRound l (callsIn_wide.2 (hlet _))).mono ?_; rintro e w1 ⟨rfl, hw⟩; have hw' := hw.symm; clear hw; subst hw') | ((first | refine ⟨trivial, fun h_ => absurd h_ (by simp [Fence.wide, Fence.inRound]), ?_⟩ | refine ⟨trivial, ?_⟩); gi_at_call 86; refine (CallsIn.inRound l (callsIn_wide.2 (hix _))).mono ?_; rintro e w1 ⟨rfl, hw⟩; have hw' := hw.symm; clear hw; subst hw') | (with_reducible refine at_skip ?_))
                all_goals try (exfalso; rename_i hA_ hB_; exact undef_not hA_)
                go_roundw
                case rel => exact ⟨k + 1, by omega, by go_num, by rw [HN.out, HV.out]; exact LL.out.set HNE.out _⟩
                case measure => first | (simp [intOf]; done) | (simp [intOf]; omega)
              | true =>
                gi_wp2_with (first | ((first | refine ⟨trivial, fun h_ => absurd h_ (by simp [Fence.wide, Fence.inRound]), ?_⟩ | refine ⟨trivial, ?_⟩); gi_at_call 85; refine (CallsIn.inRound l (callsIn_wide.2 (hlet _))).mono ?_; rintro e w1 ⟨rfl, hw⟩; have hw' := hw.symm; clear hw; subst hw') | ((first | refine ⟨trivial, fun h_ => absurd h_ (by simp [Fence.wide, Fence.inRound]), ?_⟩ | refine ⟨trivial, ?_⟩); gi_at_call 86; refine (CallsIn.inRound l (callsIn_wide.2 (hix _))).mono ?_; rintro e w1 ⟨rfl, hw⟩; have hw' := hw.symm; clear hw; subst hw') | (with_reducible refine at_skip ?_))
                all_goals try (exfalso; rename_i hA_ hB_; exact undef_not hA_)
                go_roundw
                case rel => exact ⟨k + 1, by omega, by go_num, by rw [HN.out, HV.out]; exact LL.out.set HNE.out _⟩
                case measure => first | (simp [intOf]; done) | (simp [intOf]; omega)
        · have hke : k = x.size := by omega
          subst hke
          rw [List.take_of_length_le (show x.data.toList.length ≤ x.size by simp)] at hL
          gi_wp2
          exact ⟨keepsFrom_chg hL.low (fun _ q => by omega), splKp_chg hL.low (fun _ q => by omega) (by have := SI.out.sz; omega), at_next SI.out HP.out hL (by rw [← he1]; rfl)⟩
  case done =>
    rintro D xs W hD rfl hI hK
    have z0 := AtS.ok hI |>.cell 0 (.bool ((parts 46 s).all atOk)) rfl
    have HD := Aside.mk (AtS.low hI)
    have HK := Aside.mk hK
    clear hI hK
    gi_wp2
    have hv := atoms_parts s
    refine ⟨by simp, .inl ⟨_, _, rfl, run_takeDeferred HK.out, ?_⟩⟩
    refine ⟨.bool ((parts 46 s).all atOk), ?_, by rw [hv], (HD.out.trans (chg_put W D _) (fun i _ q => by omega)).toBelow (fun i hi q => by omega)⟩
    simp [results, Tryz.f35, go_sem]
  case stop =>
    rintro D cd pre W hD ⟨h, _⟩ hK
    exact h.elim
end Go.Proofs.YtllhbcpbihhdnaaGreatDoor
end
section
set_option linter.unusedVariables false
set_option linter.unusedSimpArgs false
namespace Go.Proofs.YtllhbcpbihhdnaaGreatDoor
open Go.RowKit Go.Shelf
set_option maxRecDepth 100000
attribute [local go_sem] Oper.semAt_some
/-- What stands between two labels. -/
structure DmS (H : Nat) (w : World) (W : World) : Prop where
  txt : Blk W H #[.string ⟨#[]⟩] 9
  err : Blk W (H + 1) #[.int .i64 0] 34
  low : Chg (fun k => H ≤ k) w W
  sz : H + 5 ≤ W.heap.size
theorem DmS.chg {H : Nat} {w : World} {W W' : World} {K : Nat → Prop} (h : DmS H w W) (k : Chg K W W') (hk : ∀ i, K i → H + 2 ≤ i) : DmS H w W' :=
  ⟨h.txt.chg k (fun q => by have := hk _ q; omega), h.err.chg k (fun q => by have := hk _ q; omega), h.low.trans k (fun i _ q => by have := hk i q; omega), Nat.le_trans h.sz k.size⟩
def labB (a : ByteArray) : Bool := Pt.labOk a.data.toList
def DmI (H : Nat) (w : World) (pre : List ByteArray) (W : World) : Prop := pre.all labB = true ∧ DmS H w W
/-- A label was wrong. -/
structure DmX (H : Nat) (w : World) (cd : Code) (pre : List ByteArray) (W : World) : Prop where
  cd : cd = .ret
  bad : pre.all labB = false
  txt : Blk W H #[.string ⟨#[]⟩] 9
  err : Blk W (H + 1) #[.int .i64 2] 34
  low : Chg (fun k => H ≤ k) w W
theorem DmX.chg {H : Nat} {w : World} {cd : Code} {pre : List ByteArray} {W W' : World} {K : Nat → Prop} (h : DmX H w cd pre W) (k : Chg K W W') (hk : ∀ i, K i → H + 2 ≤ i) : DmX H w cd pre W' :=
  ⟨h.cd, h.bad, h.txt.chg k (fun q => by have := hk _ q; omega), h.err.chg k (fun q => by have := hk _ q; omega), h.low.trans k (fun i _ q => by have := hk i q; omega)⟩
theorem dm_ret {H : Nat} {w W W1 W0 : World} {pre : List ByteArray} (S1 : DmS H w W1) (T : Chg (fun k => k = H ∨ k = H + 1) W W1) (hsz : W0.heap.size = H + 5) (hb : pre.all labB = false) :
    KeepsFrom W0.heap.size W ((W1.setCell ⟨H, 0, none⟩ (.string ⟨#[]⟩)).setCell ⟨H + 1, 0, none⟩ (.int .i64 2)) ∧ DmX H w .ret pre ((W1.setCell ⟨H, 0, none⟩ (.string ⟨#[]⟩)).setCell ⟨H + 1, 0, none⟩ (.int .i64 2)) := by
  have T2 : Chg (fun k => k = H ∨ k = H + 1) W ((W1.setCell ⟨H, 0, none⟩ (.string ⟨#[]⟩)).setCell ⟨H + 1, 0, none⟩ (.int .i64 2)) := (T.setCell (p := ⟨H, 0, none⟩) (fun _ => .inl rfl) _).setCell (p := ⟨H + 1, 0, none⟩) (fun _ => .inr rfl) _
  have T3 : Chg (fun k => H ≤ k) w ((W1.setCell ⟨H, 0, none⟩ (.string ⟨#[]⟩)).setCell ⟨H + 1, 0, none⟩ (.int .i64 2)) := (S1.low.setCell (p := ⟨H, 0, none⟩) (fun _ => Nat.le_refl _) _).setCell (p := ⟨H + 1, 0, none⟩) (fun _ => Nat.le_succ _) _
  refine ⟨keepsFrom_chg T2 (fun _ q => by omega), rfl, hb, ?_, ?_, T3⟩
  · have := (S1.txt.set 0 (.string ⟨#[]⟩)).setOther ⟨H + 1, 0, none⟩ (u := .int .i64 2) (by simp)
    simpa using this
  · have := (S1.err.setOther ⟨H, 0, none⟩ (u := .string ⟨#[]⟩) (by simp)).set 0 (.int .i64 2)
    simpa using this
theorem size_pos {x : ByteArray} (h : x.toList.isEmpty = false) : 0 < x.size := by
  rw [Lib.toList_data] at h
  have : x.data.toList.length = x.size := by simp
  cases hl : x.data.toList with
  | nil => rw [hl] at h; cases h
  | cons a r => rw [hl] at this; simp at this; omega
theorem lab_empty {x : ByteArray} (h : x.toList.isEmpty = true) : labB x = false := by
  rw [Lib.toList_data] at h
  unfold labB Pt.labOk
  rw [h]
  rfl
theorem lab_long {x : ByteArray} (h : 63 < x.size) : labB x = false := by
  have : x.data.toList.length = x.size := by simp
  unfold labB Pt.labOk
  rw [decide_eq_false (by omega)]
  simp
theorem eq45 (c : UInt8) : ((c.toNat : Int) == 45) = (c == 45) := by
  rw [Bool.eq_iff_iff, beq_iff_eq, beq_iff_eq, ← UInt8.toNat_inj]
  show _ ↔ c.toNat = 45
  omega
theorem head_at {x : ByteArray} (h : 0 < x.size) : x.data.toList.head? = some (x[0]'h) := by
  have hl : 0 < x.data.toList.length := by simpa using h
  rw [List.head?_eq_getElem?, List.getElem?_eq_getElem hl]
  rfl
theorem last_at {x : ByteArray} (h : 0 < x.size) : x.data.toList.getLast? = some (x[x.size - 1]'(by omega)) := by
  have e : x.data.toList.length = x.size := by simp
  have hl : x.data.toList.length - 1 < x.data.toList.length := by omega
  rw [List.getLast?_eq_getElem?, List.getElem?_eq_getElem hl]
  simp only [e]
  rfl
theorem lab_head {x : ByteArray} (h : 0 < x.size) (hb : (((x[0]'h).toNat : Int) == 45) = true) : labB x = false := by
  rw [eq45] at hb
  unfold labB Pt.labOk
  rw [head_at h, show x[0]'h = 45 by simpa using hb]
  simp
theorem lab_last {x : ByteArray} (h : 0 < x.size) (hb : (((x[x.size - 1]'(by omega)).toNat : Int) == 45) = true) : labB x = false := by
  rw [eq45] at hb
  unfold labB Pt.labOk
  rw [last_at h, show x[x.size - 1]'(by omega) = 45 by simpa using hb]
  simp
theorem lab_if {x : ByteArray} (h : 0 < x.size) (h2 : x.size ≤ 63) (hb : (((x[0]'h).toNat : Int) == 45) = false) (hc : (((x[x.size - 1]'(by omega)).toNat : Int) == 45) = false) : labB x = x.data.toList.all Pt.labB := by
  rw [eq45] at hb hc
  have e : x.data.toList.length = x.size := by simp
  have h0 : x.data.toList.isEmpty = false := by
    cases hl : x.data.toList with
    | nil => rw [hl] at e; simp at e; omega
    | cons a r => rfl
  unfold labB Pt.labOk
  rw [last_at h, head_at h, h0, decide_eq_true (by omega)]
  simp only [beq_eq_false_iff_ne, ne_eq] at hb hc
  simp [hb, hc]
theorem lab_byte {x : ByteArray} {c : UInt8} (hm : c ∈ x.data.toList) (h : Pt.labB c = false) : labB x = false := by
  unfold labB Pt.labOk
  have : x.data.toList.all Pt.labB = false := by
    rw [← Bool.not_eq_true]
    intro q
    rw [List.all_eq_true.1 q c hm] at h
    cases h
  rw [this, Bool.and_false]
theorem mem_getD (x : ByteArray) (k : Nat) (h : k < x.size) (c : UInt8) (hc : x.data.toList.getD k 0 = c) : c ∈ x.data.toList := by
  have hl : k < x.data.toList.length := by simpa using h
  rw [List.getD_eq_getElem?_getD, List.getElem?_eq_getElem hl] at hc
  rw [← hc]
  exact List.getElem_mem hl
theorem take_lab (x : ByteArray) (k : Nat) (h : k < x.size) (c : UInt8) (hc : x.data.toList.getD k 0 = c) : (x.data.toList.take (k + 1)).all Pt.labB = ((x.data.toList.take k).all Pt.labB && Pt.labB c) := by
  have hl : k < x.data.toList.length := by simpa using h
  rw [List.take_succ_eq_append_getElem hl, List.all_append, ← hc, List.getD_eq_getElem?_getD, List.getElem?_eq_getElem hl]
  simp
theorem dom_ascii (s : ByteArray) (h : (parts 46 s).all labB = true) : ∀ (j : Nat) (b : UInt8), s.data.toList[j]? = some b → b.toNat < 128 := by
  intro j b hb
  have hm : b ∈ s.data.toList := List.mem_of_getElem? hb
  have : (parts 46 s).all labB = Pt.domOk s.data.toList := by
    unfold parts Pt.domOk
    rw [List.all_map]
    congr 1
  rw [this] at h
  rcases Pt.dom_bytes h b hm with rfl | k
  · decide
  · have := (Pt.labB_not b k).2.2.2.2.1
    omega
theorem labs_parts (s : ByteArray) : (parts 46 s).all labB = Pt.domOk s.data.toList := by
  unfold parts Pt.domOk
  rw [List.all_map]
  congr 1
set_option maxHeartbeats 4000000 in
theorem domain_some (s : ByteArray) (hm : s.size ≤ 255) (w : World) : Calls Tryz.prog 37 #[.string s] w fun e w' => e = .returned (.tuple #[.string ⟨(Pt.domain s.data.toList).1.toArray⟩, .int .i64 (Pt.domain s.data.toList).2]) ∧ Below w.heap.size w w' := by
  have h255 : decide ((255 : Int) < (s.size : Int)) = false := decide_eq_false (by omega)
  refine (callsIn_wide (n := 3)).1 ?_
  refine callsIn_of_wp_marks Tryz.func37 rfl trivial ?_ rfl
  simp only [Tryz.ntmps37, List.size_toArray, List.length_cons, List.length_nil, Nat.reduceAdd, Nat.reduceSub, Array.replicate_succ, Array.replicate_zero, List.push_toArray, List.append_toArray, List.nil_append, List.cons_append]
  gi_wp2_with ((first | refine ⟨trivial, fun h_ => absurd h_ (by simp [Fence.wide]), ?_⟩ | refine ⟨trivial, ?_⟩); gi_at_call 84; refine (callsIn_wide.2 (splitSeq_any s ⟨#[46]⟩ _)).mono ?_; rintro e w' ⟨rfl, hw⟩; have hw' := hw.symm; clear hw; subst hw')
  obtain ⟨H, hH⟩ : ∃ H, w.heap.size = H := ⟨_, rfl⟩
  simp only [hH, Nat.add_assoc, Nat.reduceAdd]
  obtain ⟨W0, hW0⟩ : ∃ W0, (((((w.alloc (Obj.cells #[Value.string { data := #[] }] 9)).alloc (Obj.cells #[Value.int IntKind.i64 0] 34)).alloc (Obj.cells #[Value.string s] 9)).alloc (Obj.cells #[Value.string { data := #[46] }] 9)).alloc (Obj.cells #[Value.int IntKind.i64 0] 3)) = W0 := ⟨_, rfl⟩
  rw [hW0]
  have hsz : W0.heap.size = H + 5 := by rw [← hW0]; simp [hH]
  have hgr : Chg (fun k => H ≤ k) w W0 := by
    rw [← hW0]
    exact (((((Chg.refl _ w).alloc _).alloc _).alloc _).alloc _).alloc _
  have hat : ∀ k (o : Obj), (#[Obj.cells #[Value.string { data := #[] }] 9, Obj.cells #[Value.int IntKind.i64 0] 34, Obj.cells #[Value.string s] 9, Obj.cells #[Value.string { data := #[46] }] 9, Obj.cells #[Value.int IntKind.i64 0] 3] : Array Obj)[k]? = some o → W0.heap[H + k]? = some o := by
    intro k o hk
    have : W0.heap = w.heap ++ #[Obj.cells #[Value.string { data := #[] }] 9, Obj.cells #[Value.int IntKind.i64 0] 34, Obj.cells #[Value.string s] 9, Obj.cells #[Value.string { data := #[46] }] 9, Obj.cells #[Value.int IntKind.i64 0] 3] := by
      rw [← hW0]
      show (((((w.heap.push _).push _).push _).push _).push _) = _
      apply Array.ext'
      simp only [Array.toList_push, Array.toList_append, List.append_assoc, List.cons_append, List.nil_append]
    rw [this, Array.getElem?_append, if_neg (by omega), hH, Nat.add_sub_cancel_left]
    exact hk
  have HI : DmI H w [] W0 := ⟨rfl, hat 0 _ rfl, hat 1 _ rfl, hgr, by omega⟩
  have hA0 : SplAt (H + 2) 46 s W0 := ⟨hat 2 _ rfl, hat 3 _ rfl, hat 4 _ rfl⟩
  clear hat hgr hW0
  refine range_cells rfl (by omega) (gf := 133) (lb := #[.pointer (some ⟨H + 3, 0, none⟩), .pointer (some ⟨H + 2, 0, none⟩), .pointer (some ⟨H + 4, 0, none⟩)]) rfl trivial (enters_of Tryz.func133 (by kernel_rfl) rfl)
    (splitSeq_stops (H + 2) 46 s 2 W0 (by omega) (by omega) hA0) (fun h k => h.trans k) (fun W l o' hl k h1 h2 => World.putObj_heap_other (by omega)) (fun A B h => by obtain ⟨v, rfl⟩ := h; exact KeepsOthers.setCell _ _ _) (Below.refl _ _) (fun _ => rfl)
    (DmI H w) (DmX H w) (fun s_ A B row hs_ hg hr_ => ⟨hs_.1, hs_.2.chg (chg_grown hg hr_) (fun i q => by omega)⟩) (fun s_ A B hs_ ht => by obtain ⟨v, rfl⟩ := ht; exact ⟨hs_.1, hs_.2.chg ((Chg.refl (fun k => k = H + 2) A).setCell (fun _ => rfl) v) (fun i q => by omega)⟩)
    (fun cd s_ A B row hs_ hg hr_ => hs_.chg (chg_grown hg hr_) (fun i q => by omega)) HI
    (fun x => { tmps := #[Value.string s, undef, Value.pointer (some { block := H, off := 0 }), Value.pointer (some { block := H + 1, off := 0 }), .string x, undef, undef, Value.string s, Value.int IntKind.i64 s.size, Value.bool false, Value.string s, Value.func (Fn.func 133) #[] #[.pointer (some ⟨H + 3, 0, none⟩), .pointer (some ⟨H + 2, 0, none⟩), .pointer (some ⟨H + 4, 0, none⟩)], .string x, undef, undef, undef, undef, undef, undef, undef, undef, undef, undef, undef, undef, undef, undef, undef, undef, undef, undef, undef, undef, undef, undef, undef, undef, undef, undef, undef, undef, undef, undef, undef, undef, undef, undef, undef, undef, undef], defers := [] }) ?assign ?body ?done ?stop
  case assign =>
    intro l x W K hK
    gi_wp2
    exact hK
  case body =>
    rintro l pre x W ⟨hall, hS⟩ hpre
    have hxm : x ∈ parts 46 s := hpre.subset (by simp)
    have hxs := parts_size 46 s x hxm
    have HP := Aside.mk (show (pre ++ [x]).all labB = labB x by simp [hall])
    have z0 := hS.txt.cell 0 (.string ⟨#[]⟩) rfl
    have y0 := hS.txt.free 0
    have z1 := hS.err.cell 0 (.int .i64 0) rfl
    have y1 := hS.err.free 0
    have kb := fun W => Lib.run_convert_string_bytes (P := Tryz.prog) W 9 40 5 x Tryz.underlying9 Tryz.underlying40 Tryz.underlying5
    have SI := Aside.mk hS
    have TI : Aside (Chg (fun k => k = H ∨ k = H + 1) W W) := ⟨Chg.refl _ _⟩
    clear hS hpre hxm HI hA0 hall
    by_cases he : x.toList.isEmpty = true
    · gi_wp2
      exact dm_ret SI.out TI.out hsz (by rw [HP.out]; exact lab_empty he)
    · have he0 : x.toList.isEmpty = false := by simpa using he
      have hpos := size_pos he0
      clear he
      by_cases h63 : 63 < x.size
      · have d63 : decide ((63 : Int) < (x.size : Int)) = true := decide_eq_true (by omega)
        gi_wp2
        exact dm_ret SI.out TI.out hsz (by rw [HP.out]; exact lab_long h63)
      · have d63 : decide ((63 : Int) < (x.size : Int)) = false := decide_eq_false (by omega)
        obtain ⟨b0, hb0⟩ : ∃ b, (((x[0]'hpos).toNat : Int) == 45) = b := ⟨_, rfl⟩
        obtain ⟨b1, hb1⟩ : ∃ b, (((x[x.size - 1]'(by omega)).toNat : Int) == 45) = b := ⟨_, rfl⟩
        cases b0 with
        | true =>
          gi_wp2
          exact dm_ret SI.out TI.out hsz (by rw [HP.out]; exact lab_head hpos hb0)
        | false =>
          cases b1 with
          | true =>
            gi_wp2
            exact dm_ret SI.out TI.out hsz (by rw [HP.out]; exact lab_last hpos hb1)
          | false =>
            have HL := Aside.mk (lab_if hpos (by omega) hb0 hb1)
            gi_wp2
            have S1 := Aside.mk (SI.out.chg ((Chg.refl NoK W).bytes 5 x) (fun i q => q.elim))
            have T1 := Aside.mk (TI.out.bytes 5 x)
            have hby : ∀ j, j < x.size → (Lib.bytesWorld W 5 x).cell? ⟨W.heap.size, j, none⟩ = some (.int .u8 ((x.data.toList.getD j 0).toNat : Int)) := fun j hj => Lib.bytesWorld_cell W 5 x j hj
            have HBy := Aside.mk hby
            clear hby z0 y0 z1 y1 hb0 hb1
            obtain ⟨W1, hW1⟩ : ∃ W1, Lib.bytesWorld W 5 x = W1 := ⟨_, rfl⟩
            rw [hW1] at S1 T1 HBy ⊢
            clear hW1
            gi_loopw [36] (fun i wr => wr = W1 ∧ ∃ k : Nat, k ≤ x.size ∧ i = .int .i64 k ∧ (x.data.toList.take k).all Pt.labB = true) (fun i _ => x.size - (intOf i).toNat)
            case atStart => exact ⟨rfl, 0, by omega, rfl, rfl⟩
            case round =>
              obtain ⟨rfl, k, hk, rfl, hno⟩ := hrel
              have HA := Aside.mk hno
              clear hno
              by_cases hlt : k < x.size
              · obtain ⟨ch, hch⟩ : ∃ c, x.data.toList.getD k 0 = c := ⟨_, rfl⟩
                have HT := Aside.mk (take_lab x k hlt ch hch)
                have zc := HBy.out k hlt
                rw [hch] at zc
                have HM := Aside.mk (mem_getD x k hlt ch hch)
                clear hch
                have z0 := S1.out.txt.cell 0 (.string ⟨#[]⟩) rfl
                have y0 := S1.out.txt.free 0
                have z1 := S1.out.err.cell 0 (.int .i64 0) rfl
                have y1 := S1.out.err.free 0
                have hlet := fun W => letter_any ch W
                have hcr := ch.toNat_lt
                obtain ⟨lt, hlt2⟩ : ∃ t, Txt.letter ch = t := ⟨_, rfl⟩
                obtain ⟨da, hda⟩ : ∃ t, ((ch.toNat : Int) == 45) = t := ⟨_, rfl⟩
                have HV : Aside (Pt.labB ch = (lt || da)) := ⟨by unfold Pt.labB; rw [hlt2, ← hda, eq45]⟩
                have hda2 : ((ch.toNat : Int) != 45) = !da := by rw [← hda]; rfl
                rw [hlt2] at hlet
                clear hlt2
                cases lt with
                | true =>
                  gi_wp2_with (first | ((first | refine ⟨trivial, fun h_ => absurd h_ (by simp [Fence.wide, Fence.inRound]), ?_⟩ | refine ⟨trivial, ?_⟩); gi_at_call 85; refine (CallsIn.inRound l (callsIn_wide.2 (hlet _))).mono ?_; rintro e w1 ⟨rfl, hw⟩; have hw' := hw.symm; clear hw; subst hw') | (with_reducible refine at_skip ?_))
                  go_roundw
                  case rel => exact ⟨by first | trivial | rfl, k + 1, by omega, by go_num, by rw [HT.out, HA.out, HV.out]; rfl⟩
                  case measure => first | (simp [intOf]; done) | (simp [intOf]; omega)
                | false =>
                  cases da with
                  | true =>
                    gi_wp2_with (first | ((first | refine ⟨trivial, fun h_ => absurd h_ (by simp [Fence.wide, Fence.inRound]), ?_⟩ | refine ⟨trivial, ?_⟩); gi_at_call 85; refine (CallsIn.inRound l (callsIn_wide.2 (hlet _))).mono ?_; rintro e w1 ⟨rfl, hw⟩; have hw' := hw.symm; clear hw; subst hw') | (with_reducible refine at_skip ?_))
                    go_roundw
                    case rel => exact ⟨by first | trivial | rfl, k + 1, by omega, by go_num, by rw [HT.out, HA.out, HV.out]; rfl⟩
                    case measure => first | (simp [intOf]; done) | (simp [intOf]; omega)
                  | false =>
                    gi_wp2_with (first | ((first | refine ⟨trivial, fun h_ => absurd h_ (by simp [Fence.wide, Fence.inRound]), ?_⟩ | refine ⟨trivial, ?_⟩); gi_at_call 85; refine (CallsIn.inRound l (callsIn_wide.2 (hlet _))).mono ?_; rintro e w1 ⟨rfl, hw⟩; have hw' := hw.symm; clear hw; subst hw') | (with_reducible refine at_skip ?_))
                    exact dm_ret S1.out T1.out hsz (by rw [HP.out]; exact lab_byte HM.out (by rw [HV.out]; rfl))
              · have hke : k = x.size := by omega
                subst hke
                have hall2 := HA.out
                rw [List.take_of_length_le (show x.data.toList.length ≤ x.size by simp)] at hall2
                gi_wp2
                exact ⟨keepsFrom_chg T1.out (fun _ q => by omega), splKp_chg T1.out (fun _ q => by omega) (by have := SI.out.sz; omega), by rw [HP.out, HL.out]; exact hall2, S1.out⟩
  case done =>
    rintro D xs W hD rfl ⟨hall, hS⟩ hK
    have hlow := fun W => Tryz.strings_ToLower_ascii s W (by omega) (dom_ascii s hall)
    have HD := Aside.mk hS
    have HK := Aside.mk hK
    have y0 := hS.txt.free 0
    have y1 := hS.err.free 0
    have z0 := hS.txt.cell 0 (.string ⟨#[]⟩) rfl
    have z1 := hS.err.cell 0 (.int .i64 0) rfl
    clear hS hK
    gi_wp2_with ((first | refine ⟨trivial, fun h_ => absurd h_ (by simp [Fence.wide]), ?_⟩ | refine ⟨trivial, ?_⟩); gi_at_call 36; refine (callsIn_wide.2 (hlow _)).mono ?_; rintro e w1 ⟨rfl, hb_⟩; have HT := Aside.mk (HD.out.txt.below hb_); have HE := Aside.mk (HD.out.err.below hb_); have HL := Aside.mk (HD.out.low.trans (Chg.ofBelow hb_ (fun k => H ≤ k)) (fun _ _ q => q)); have HK1 := Aside.mk ((hb_.block D (lt_of_block HK.out)).trans HK.out); clear hb_ y0 y1 z0 z1; have y0 := HT.out.free 0; have y1 := HE.out.free 0; have z0 := HT.out.cell 0 (.string ⟨#[]⟩) rfl; have z1 := HE.out.cell 0 (.int .i64 0) rfl)
    have hv : Pt.domain s.data.toList = (Lib.toLowerA s.data.toList, 0) := by
      unfold Pt.domain
      rw [if_neg (by simp; omega), if_pos (by rw [← labs_parts]; exact hall)]
    have B0 := (HT.out.set 0 (.string ⟨(Lib.toLowerA s.data.toList).toArray⟩)).setOther ⟨H + 1, 0, none⟩ (u := .int .i64 0) (by simp)
    have B1 := (HE.out.setOther ⟨H, 0, none⟩ (u := .string ⟨(Lib.toLowerA s.data.toList).toArray⟩) (by simp)).set 0 (.int .i64 0)
    have hK2 : ((w1.setCell ⟨H, 0, none⟩ (.string ⟨(Lib.toLowerA s.data.toList).toArray⟩)).setCell ⟨H + 1, 0, none⟩ (.int .i64 0)).heap[D]? = some (.deferred (some [])) := (Below.heap_setCell _ ⟨H + 1, 0, none⟩ _ D (by simp; omega)).trans ((Below.heap_setCell _ ⟨H, 0, none⟩ _ D (by simp; omega)).trans HK1.out)
    refine ⟨by simp, .inl ⟨_, _, rfl, run_takeDeferred hK2, ?_⟩⟩
    have c0 := (Blk.chg B0 (chg_put _ D (.deferred none)) (by omega)).cell 0 (.string ⟨(Lib.toLowerA s.data.toList).toArray⟩) (by simp)
    have c1 := (Blk.chg B1 (chg_put _ D (.deferred none)) (by omega)).cell 0 (.int .i64 0) (by simp)
    refine ⟨.tuple #[.string ⟨(Lib.toLowerA s.data.toList).toArray⟩, .int .i64 0], ?_, by rw [hv], (((HL.out.setCell (p := ⟨H, 0, none⟩) (fun _ => Nat.le_refl _) _).setCell (p := ⟨H + 1, 0, none⟩) (fun _ => Nat.le_succ _) _).trans (chg_put _ D _) (fun i _ q => by omega)).toBelow (fun i hi q => by omega)⟩
    simp [results, Tryz.f37, go_sem, c0, c1]
  case stop =>
    rintro D cd pre W hD ⟨⟨rfl, hbad, htx, her, hlo⟩, hpre⟩ hK
    obtain ⟨rest, hrest⟩ := hpre
    gi_wp2
    have hv : Pt.domain s.data.toList = ([], 2) := by
      unfold Pt.domain
      rw [if_neg (by simp; omega), if_neg]
      rw [← labs_parts, ← hrest, List.all_append, hbad]
      simp
    refine ⟨by simp, .inl ⟨_, _, rfl, run_takeDeferred hK, ?_⟩⟩
    have c0 := (Blk.chg htx (chg_put _ D (.deferred none)) (by omega)).cell 0 (.string ⟨#[]⟩) (by simp)
    have c1 := (Blk.chg her (chg_put _ D (.deferred none)) (by omega)).cell 0 (.int .i64 2) (by simp)
    refine ⟨.tuple #[.string ⟨#[]⟩, .int .i64 2], ?_, by rw [hv], (hlo.trans (chg_put _ D _) (fun i _ q => by omega)).toBelow (fun i hi q => by omega)⟩
    simp [results, Tryz.f37, go_sem, c0, c1]
end Go.Proofs.YtllhbcpbihhdnaaGreatDoor
end
section
set_option linter.unusedVariables false
set_option linter.unusedSimpArgs false
namespace Go.Proofs.YtllhbcpbihhdnaaGreatDoor
open Go.RowKit Go.Shelf
set_option maxRecDepth 100000
attribute [local go_sem] Oper.semAt_some
theorem domain_long (s : ByteArray) (hm : 255 < s.size) (w : World) : Calls Tryz.prog 37 #[.string s] w fun e w' => e = .returned (.tuple #[.string ⟨#[]⟩, .int .i64 3]) ∧ Below w.heap.size w w' := by
  have h255 : decide ((255 : Int) < (s.size : Int)) = true := decide_eq_true (by omega)
  go_enter Tryz.func37, Tryz.ntmps37
  go_wp2
  refine bodyPost_ret (v := .tuple #[.string ⟨#[]⟩, .int .i64 3]) (by simp [results, Tryz.results37, go_sem]) rfl ⟨rfl, ?_⟩
  first | exact Below.setCell (Below.setCell (((Below.refl _ w).alloc (Nat.le_refl _) _).alloc (by simp) _) (p := ⟨w.heap.size, 0, none⟩) (Nat.le_refl _) _) (p := ⟨w.heap.size + 1, 0, none⟩) (Nat.le_succ _) _ | exact (((Below.refl _ w).alloc (Nat.le_refl _) _).alloc (by simp) _)
theorem domain_any (s : ByteArray) (w : World) : Calls Tryz.prog 37 #[.string s] w fun e w' => e = .returned (.tuple #[.string ⟨(Pt.domain s.data.toList).1.toArray⟩, .int .i64 (Pt.domain s.data.toList).2]) ∧ Below w.heap.size w w' := by
  by_cases h : s.size ≤ 255
  · exact domain_some s h w
  · have hv : Pt.domain s.data.toList = ([], 3) := by unfold Pt.domain; rw [if_pos (by simp; omega)]
    rw [hv]
    exact domain_long s (by omega) w
def shB (a : ByteArray) : Bool := decide ((Pt.domain a.data.toList).2 = 0)
structure ShS (H : Nat) (w : World) (v : Bool) (W : World) : Prop where
  res : Blk W H #[.bool v] 4
  low : Chg (fun k => H ≤ k) w W
  sz : H + 4 ≤ W.heap.size
theorem ShS.chg {H : Nat} {w : World} {v : Bool} {W W' : World} {K : Nat → Prop} (h : ShS H w v W) (k : Chg K W W') (hk : ∀ i, K i → H + 1 ≤ i) : ShS H w v W' :=
  ⟨h.res.chg k (fun q => by have := hk _ q; omega), h.low.trans k (fun i _ q => by have := hk i q; omega), Nat.le_trans h.sz k.size⟩
theorem sh_parts (s : ByteArray) : (parts 46 s).all shB = Pt.shaped s.data.toList := by
  unfold parts Pt.shaped
  rw [List.all_map]
  congr 1
set_option maxHeartbeats 4000000 in
theorem shaped_any (s : ByteArray) (hm : s.size ≤ 100000000) (w : World) : Calls Tryz.prog 38 #[.string s] w fun e w' => e = .returned (.bool (Pt.shaped s.data.toList)) ∧ Below w.heap.size w w' := by
  refine (callsIn_wide (n := 3)).1 ?_
  refine callsIn_of_wp_marks Tryz.func38 rfl trivial ?_ rfl
  simp only [Tryz.ntmps38, List.size_toArray, List.length_cons, List.length_nil, Nat.reduceAdd, Nat.reduceSub, Array.replicate_succ, Array.replicate_zero, List.push_toArray, List.append_toArray, List.nil_append, List.cons_append]
  gi_wp2_with ((first | refine ⟨trivial, fun h_ => absurd h_ (by simp [Fence.wide]), ?_⟩ | refine ⟨trivial, ?_⟩); gi_at_call 84; refine (callsIn_wide.2 (splitSeq_any s ⟨#[46]⟩ _)).mono ?_; rintro e w' ⟨rfl, hw⟩; have hw' := hw.symm; clear hw; subst hw')
  obtain ⟨H, hH⟩ : ∃ H, w.heap.size = H := ⟨_, rfl⟩
  simp only [hH, Nat.add_assoc, Nat.reduceAdd]
  obtain ⟨W0, hW0⟩ : ∃ W0, ((((w.alloc (Obj.cells #[Value.bool false] 4)).alloc (Obj.cells #[Value.string s] 9)).alloc (Obj.cells #[Value.string { data := #[46] }] 9)).alloc (Obj.cells #[Value.int IntKind.i64 0] 3)) = W0 := ⟨_, rfl⟩
  rw [hW0]
  have hsz : W0.heap.size = H + 4 := by rw [← hW0]; simp [hH]
  have hgr : Chg (fun k => H ≤ k) w W0 := by
    rw [← hW0]
    exact ((((Chg.refl _ w).alloc _).alloc _).alloc _).alloc _
  have hat : ∀ k (o : Obj), (#[Obj.cells #[Value.bool false] 4, Obj.cells #[Value.string s] 9, Obj.cells #[Value.string { data := #[46] }] 9, Obj.cells #[Value.int IntKind.i64 0] 3] : Array Obj)[k]? = some o → W0.heap[H + k]? = some o := by
    intro k o hk
    have : W0.heap = w.heap ++ #[Obj.cells #[Value.bool false] 4, Obj.cells #[Value.string s] 9, Obj.cells #[Value.string { data := #[46] }] 9, Obj.cells #[Value.int IntKind.i64 0] 3] := by
      rw [← hW0]
      show (((w.heap.push _).push _).push _).push _ = _
      apply Array.ext'
      simp only [Array.toList_push, Array.toList_append, List.append_assoc, List.cons_append, List.nil_append]
    rw [this, Array.getElem?_append, if_neg (by omega), hH, Nat.add_sub_cancel_left]
    exact hk
  have HI : (([] : List ByteArray).all shB = true ∧ ShS H w false W0) := ⟨rfl, hat 0 _ rfl, hgr, by omega⟩
  have hA0 : SplAt (H + 1) 46 s W0 := ⟨hat 1 _ rfl, hat 2 _ rfl, hat 3 _ rfl⟩
  clear hat hgr hW0
  refine range_cells rfl (by omega) (gf := 133) (lb := #[.pointer (some ⟨H + 2, 0, none⟩), .pointer (some ⟨H + 1, 0, none⟩), .pointer (some ⟨H + 3, 0, none⟩)]) rfl trivial (enters_of Tryz.func133 (by kernel_rfl) rfl)
    (splitSeq_stops (H + 1) 46 s 2 W0 (by omega) (by omega) hA0) (fun h k => h.trans k) (fun W l o' hl k h1 h2 => World.putObj_heap_other (by omega)) (fun A B h => by obtain ⟨v, rfl⟩ := h; exact KeepsOthers.setCell _ _ _) (Below.refl _ _) (fun _ => rfl)
    (fun pre W => pre.all shB = true ∧ ShS H w false W) (fun cd pre W => cd = .ret ∧ pre.all shB = false ∧ ShS H w false W) (fun s_ A B row hs_ hg hr_ => ⟨hs_.1, hs_.2.chg (chg_grown hg hr_) (fun i q => by omega)⟩) (fun s_ A B hs_ ht => by obtain ⟨v, rfl⟩ := ht; exact ⟨hs_.1, hs_.2.chg ((Chg.refl (fun k => k = H + 1) A).setCell (fun _ => rfl) v) (fun i q => by omega)⟩)
    (fun cd s_ A B row hs_ hg hr_ => ⟨hs_.1, hs_.2.1, hs_.2.2.chg (chg_grown hg hr_) (fun i q => by omega)⟩) HI
    (fun x => { tmps := #[Value.string s, undef, Value.pointer (some { block := H, off := 0 }), .string x, undef, undef, Value.string s, Value.func (Fn.func 133) #[] #[.pointer (some ⟨H + 2, 0, none⟩), .pointer (some ⟨H + 1, 0, none⟩), .pointer (some ⟨H + 3, 0, none⟩)], .string x, undef, undef, undef, undef, undef, undef, undef], defers := [] }) ?assign ?body ?done ?stop
  case assign =>
    intro l x W K hK
    gi_wp2
    exact hK
  case body =>
    rintro l pre x W ⟨hall, hS⟩ hpre
    have HP := Aside.mk (show (pre ++ [x]).all shB = shB x by simp [hall])
    have HZ := Aside.mk hS.sz
    have SI := Aside.mk hS
    have TI : Aside (Chg (fun k => k = H) W W) := ⟨Chg.refl _ _⟩
    have hdm := fun W => domain_any x W
    obtain ⟨pd, hpd⟩ : ∃ p, Pt.domain x.data.toList = p := ⟨_, rfl⟩
    obtain ⟨d, e⟩ := pd
    rw [hpd] at hdm
    have HE : Aside (shB x = decide (e = 0)) := ⟨by unfold shB; rw [hpd]⟩
    have z0 := hS.res.cell 0 (.bool false) rfl
    have y0 := hS.res.free 0
    clear hS hpre HI hA0 hall hpd
    by_cases h0 : e = 0
    · subst h0
      gi_wp2_with (first | ((first | refine ⟨trivial, fun h_ => absurd h_ (by simp [Fence.wide, Fence.inRound]), ?_⟩ | refine ⟨trivial, ?_⟩); gi_at_call 37; refine (CallsIn.inRound l (callsIn_wide.2 (hdm _))).mono ?_; rintro e w1 ⟨rfl, hb⟩; replace SI := Aside.mk (SI.out.chg (Chg.ofBelow hb NoK) (fun i q => q.elim)); replace TI := Aside.mk (TI.out.trans (Chg.ofBelow hb (fun k => k = H)) (fun _ _ q => q)); clear hb z0 y0; have z0 := SI.out.res.cell 0 (.bool false) rfl; have y0 := SI.out.res.free 0))
      exact ⟨keepsFrom_chg TI.out (fun _ q => by omega), splKp_chg TI.out (fun _ q => by omega) (by have := HZ.out; omega), by rw [HP.out, HE.out]; rfl, SI.out⟩
    · have e1 : (e != 0) = true := by simpa using h0
      have HE2 : Aside (shB x = false) := ⟨by rw [HE.out]; exact decide_eq_false h0⟩
      clear h0 HE
      gi_wp2_with (first | ((first | refine ⟨trivial, fun h_ => absurd h_ (by simp [Fence.wide, Fence.inRound]), ?_⟩ | refine ⟨trivial, ?_⟩); gi_at_call 37; refine (CallsIn.inRound l (callsIn_wide.2 (hdm _))).mono ?_; rintro e w1 ⟨rfl, hb⟩; replace SI := Aside.mk (SI.out.chg (Chg.ofBelow hb NoK) (fun i q => q.elim)); replace TI := Aside.mk (TI.out.trans (Chg.ofBelow hb (fun k => k = H)) (fun _ _ q => q)); clear hb z0 y0; have z0 := SI.out.res.cell 0 (.bool false) rfl; have y0 := SI.out.res.free 0))
      exact ⟨keepsFrom_chg (TI.out.setCell (p := ⟨H, 0, none⟩) (fun _ => rfl) _) (fun _ q => by omega), rfl, by rw [HP.out]; exact HE2.out, ⟨by have := SI.out.res.set 0 (.bool false); simpa using this, SI.out.low.setCell (p := ⟨H, 0, none⟩) (fun _ => Nat.le_refl _) _, by simpa using SI.out.sz⟩⟩
  case done =>
    rintro D xs W hD rfl ⟨hall, hS⟩ hK
    have z0 := hS.res.cell 0 (.bool false) rfl
    have y0 := hS.res.free 0
    have HS := Aside.mk hS
    have HK := Aside.mk hK
    clear hS hK
    gi_wp2
    have hK2 : (W.setCell ⟨H, 0, none⟩ (.bool true)).heap[D]? = some (.deferred (some [])) := (Below.heap_setCell _ ⟨H, 0, none⟩ _ D (by simp; omega)).trans HK.out
    refine ⟨by simp, .inl ⟨_, _, rfl, run_takeDeferred hK2, ?_⟩⟩
    have B0 := HS.out.res.set 0 (.bool true)
    have c0 := (Blk.chg B0 (chg_put _ D (.deferred none)) (by omega)).cell 0 (.bool true) (by simp)
    refine ⟨.bool true, ?_, by rw [← sh_parts, hall], ((HS.out.low.setCell (p := ⟨H, 0, none⟩) (fun _ => Nat.le_refl _) _).trans (chg_put _ D _) (fun i _ q => by omega)).toBelow (fun i hi q => by omega)⟩
    simp [results, Tryz.f38, go_sem, c0]
  case stop =>
    rintro D cd pre W hD ⟨⟨rfl, hbad, hS⟩, hpre⟩ hK
    obtain ⟨rest, hrest⟩ := hpre
    gi_wp2
    have hv : Pt.shaped s.data.toList = false := by
      rw [← sh_parts, ← hrest, List.all_append, hbad]
      simp
    refine ⟨by simp, .inl ⟨_, _, rfl, run_takeDeferred hK, ?_⟩⟩
    have c0 := (Blk.chg hS.res (chg_put _ D (.deferred none)) (by omega)).cell 0 (.bool false) (by simp)
    refine ⟨.bool false, ?_, by rw [hv], (hS.low.trans (chg_put _ D _) (fun i _ q => by omega)).toBelow (fun i hi q => by omega)⟩
    simp [results, Tryz.f38, go_sem, c0]
end Go.Proofs.YtllhbcpbihhdnaaGreatDoor
end
section
set_option linter.unusedVariables false
set_option linter.unusedSimpArgs false
namespace Go.Proofs.YtllhbcpbihhdnaaGreatDoor
open Go.RowKit Go.Shelf
set_option maxRecDepth 100000
theorem pathNull_any (lo dm : ByteArray) (w : World) : Calls Tryz.prog 15 #[.agg #[.string lo, .string dm]] w fun e w' => e = .returned (.bool (lo.toList.isEmpty && dm.toList.isEmpty)) ∧ Below w.heap.size w w' := by
  go_enter Tryz.func15, Tryz.ntmps15
  go_wp2
  all_goals
    go_ret
    refine ⟨ret_bool ?_, (Below.refl _ w).alloc (Nat.le_refl _) _⟩
    simp_all
theorem pathRight_bools (lo dm : ByteArray) : Pt.right lo.data.toList dm.data.toList =
    if (decide ((64 : Int) < (lo.size : Int)) || decide ((255 : Int) < (dm.size : Int))) = true then 3
    else if (dm.toList.isEmpty && (lo.toList.isEmpty || (lo.toList == [112, 111, 115, 116, 109, 97, 115, 116, 101, 114]))) = true then 0
    else if (((Pt.domain dm.data.toList).2 != 0) || !((⟨(Pt.domain dm.data.toList).1.toArray⟩ : ByteArray).toList == dm.toList) || lo.toList.isEmpty) = true then 2
    else if Pt.shown lo.data.toList = true then 0 else 2 := by
  have h1 : lo.data.toList.length = lo.size := by simp
  have h2 : dm.data.toList.length = dm.size := by simp
  unfold Pt.right
  simp only [Lib.toList_data, Bool.or_eq_true, Bool.and_eq_true, decide_eq_true_eq, List.isEmpty_iff, beq_iff_eq, bne_iff_ne, ne_eq, Bool.not_eq_true', beq_eq_false_iff_ne, List.toList_toArray]
  have e1 : (64 < lo.data.toList.length ∨ 255 < dm.data.toList.length) ↔ ((64 : Int) < (lo.size : Int) ∨ (255 : Int) < (dm.size : Int)) := by omega
  by_cases hA : 64 < lo.data.toList.length ∨ 255 < dm.data.toList.length
  · rw [if_pos hA, if_pos (e1.1 hA)]
  · rw [if_neg hA, if_neg (fun q => hA (e1.2 q))]
    congr 1
    congr 1
    simp only [or_assoc]
theorem take_shown (x : ByteArray) (k : Nat) (h : k < x.size) (c : UInt8) (hc : x.data.toList.getD k 0 = c) : Pt.shown (x.data.toList.take (k + 1)) = (Pt.shown (x.data.toList.take k) && (decide (32 ≤ c.toNat) && decide (c.toNat ≤ 126))) := by
  have hl : k < x.data.toList.length := by simpa using h
  unfold Pt.shown
  rw [List.take_succ_eq_append_getElem hl, List.all_append, ← hc, List.getD_eq_getElem?_getD, List.getElem?_eq_getElem hl]
  simp
theorem shown_not {l : List UInt8} {c : UInt8} (hm : c ∈ l) (h : c.toNat < 32 ∨ 126 < c.toNat) : Pt.shown l = false := by
  unfold Pt.shown
  rw [← Bool.not_eq_true]
  intro q
  have := List.all_eq_true.1 q c hm
  simp only [Bool.and_eq_true, decide_eq_true_eq] at this
  omega
set_option maxHeartbeats 2000000 in
theorem pathRight_a (lo dm : ByteArray) (d : List UInt8) (e : Int) (hd : Pt.domain dm.data.toList = (d, e)) (b64 : decide ((64 : Int) < (lo.size : Int)) = true)  (w : World) : Calls Tryz.prog 67 #[.agg #[.string lo, .string dm]] w fun e w' => e = .returned (.int .i64 3) ∧ Below w.heap.size w w' := by
  have hdm := fun W => domain_any dm W
  rw [hd] at hdm
  clear hd
  obtain ⟨H, hH⟩ : ∃ H, w.heap.size = H := ⟨_, rfl⟩
  have SS : Aside (Blk (w.alloc (.cells #[.string lo, .string dm] 23)) H #[.string lo, .string dm] 23 ∧ Below H w (w.alloc (.cells #[.string lo, .string dm] 23))) := ⟨hH ▸ Blk.new (w := w) #[.string lo, .string dm] 23, (Below.refl _ w).alloc (by omega) _⟩
  rw [hH]
  obtain ⟨dt, hdt⟩ : ∃ t, (⟨d.toArray⟩ : ByteArray) = t := ⟨_, rfl⟩
  change ∀ W, Calls _ _ _ W (fun e' w' => e' = .returned (.tuple #[.string ⟨d.toArray⟩, .int .i64 e]) ∧ _) at hdm
  rw [hdt] at hdm
  clear hdt
  go_enter Tryz.func67, Tryz.ntmps67
  go_wp2_with (go_at_call 37; (with_reducible refine (hdm _).mono ?_); rintro e W_ ⟨rfl, hb_⟩; replace SS := Aside.mk (show Blk _ H _ _ ∧ Below H _ _ from ⟨SS.out.1.below hb_, SS.out.2.trans (hb_.mono (by have := SS.out.2.size; omega))⟩); clear hb_; have x0 := SS.out.1.cell 0 (.string lo) rfl; have x1 := SS.out.1.cell 1 (.string dm) rfl)
  go_ret
  exact ⟨rfl, SS.out.2⟩
set_option maxHeartbeats 2000000 in
theorem pathRight_b (lo dm : ByteArray) (d : List UInt8) (e : Int) (hd : Pt.domain dm.data.toList = (d, e)) (b64 : decide ((64 : Int) < (lo.size : Int)) = false) (b255 : decide ((255 : Int) < (dm.size : Int)) = true)  (w : World) : Calls Tryz.prog 67 #[.agg #[.string lo, .string dm]] w fun e w' => e = .returned (.int .i64 3) ∧ Below w.heap.size w w' := by
  have hdm := fun W => domain_any dm W
  rw [hd] at hdm
  clear hd
  obtain ⟨H, hH⟩ : ∃ H, w.heap.size = H := ⟨_, rfl⟩
  have SS : Aside (Blk (w.alloc (.cells #[.string lo, .string dm] 23)) H #[.string lo, .string dm] 23 ∧ Below H w (w.alloc (.cells #[.string lo, .string dm] 23))) := ⟨hH ▸ Blk.new (w := w) #[.string lo, .string dm] 23, (Below.refl _ w).alloc (by omega) _⟩
  rw [hH]
  obtain ⟨dt, hdt⟩ : ∃ t, (⟨d.toArray⟩ : ByteArray) = t := ⟨_, rfl⟩
  change ∀ W, Calls _ _ _ W (fun e' w' => e' = .returned (.tuple #[.string ⟨d.toArray⟩, .int .i64 e]) ∧ _) at hdm
  rw [hdt] at hdm
  clear hdt
  go_enter Tryz.func67, Tryz.ntmps67
  go_wp2_with (go_at_call 37; (with_reducible refine (hdm _).mono ?_); rintro e W_ ⟨rfl, hb_⟩; replace SS := Aside.mk (show Blk _ H _ _ ∧ Below H _ _ from ⟨SS.out.1.below hb_, SS.out.2.trans (hb_.mono (by have := SS.out.2.size; omega))⟩); clear hb_; have x0 := SS.out.1.cell 0 (.string lo) rfl; have x1 := SS.out.1.cell 1 (.string dm) rfl)
  go_ret
  exact ⟨rfl, SS.out.2⟩
set_option maxHeartbeats 2000000 in
theorem pathRight_c (lo dm : ByteArray) (d : List UInt8) (e : Int) (hd : Pt.domain dm.data.toList = (d, e)) (b64 : decide ((64 : Int) < (lo.size : Int)) = false) (b255 : decide ((255 : Int) < (dm.size : Int)) = false) (ed : dm.toList.isEmpty = true) (el : lo.toList.isEmpty = true)  (w : World) : Calls Tryz.prog 67 #[.agg #[.string lo, .string dm]] w fun e w' => e = .returned (.int .i64 0) ∧ Below w.heap.size w w' := by
  have hdm := fun W => domain_any dm W
  rw [hd] at hdm
  clear hd
  obtain ⟨H, hH⟩ : ∃ H, w.heap.size = H := ⟨_, rfl⟩
  have SS : Aside (Blk (w.alloc (.cells #[.string lo, .string dm] 23)) H #[.string lo, .string dm] 23 ∧ Below H w (w.alloc (.cells #[.string lo, .string dm] 23))) := ⟨hH ▸ Blk.new (w := w) #[.string lo, .string dm] 23, (Below.refl _ w).alloc (by omega) _⟩
  rw [hH]
  obtain ⟨dt, hdt⟩ : ∃ t, (⟨d.toArray⟩ : ByteArray) = t := ⟨_, rfl⟩
  change ∀ W, Calls _ _ _ W (fun e' w' => e' = .returned (.tuple #[.string ⟨d.toArray⟩, .int .i64 e]) ∧ _) at hdm
  rw [hdt] at hdm
  clear hdt
  go_enter Tryz.func67, Tryz.ntmps67
  go_wp2_with (go_at_call 37; (with_reducible refine (hdm _).mono ?_); rintro e W_ ⟨rfl, hb_⟩; replace SS := Aside.mk (show Blk _ H _ _ ∧ Below H _ _ from ⟨SS.out.1.below hb_, SS.out.2.trans (hb_.mono (by have := SS.out.2.size; omega))⟩); clear hb_; have x0 := SS.out.1.cell 0 (.string lo) rfl; have x1 := SS.out.1.cell 1 (.string dm) rfl)
  go_ret
  exact ⟨rfl, SS.out.2⟩
set_option maxHeartbeats 2000000 in
theorem pathRight_d (lo dm : ByteArray) (d : List UInt8) (e : Int) (hd : Pt.domain dm.data.toList = (d, e)) (b64 : decide ((64 : Int) < (lo.size : Int)) = false) (b255 : decide ((255 : Int) < (dm.size : Int)) = false) (ed : dm.toList.isEmpty = true) (el : lo.toList.isEmpty = false) (ep : (lo.toList == [112, 111, 115, 116, 109, 97, 115, 116, 101, 114]) = true)  (w : World) : Calls Tryz.prog 67 #[.agg #[.string lo, .string dm]] w fun e w' => e = .returned (.int .i64 0) ∧ Below w.heap.size w w' := by
  have hdm := fun W => domain_any dm W
  rw [hd] at hdm
  clear hd
  obtain ⟨H, hH⟩ : ∃ H, w.heap.size = H := ⟨_, rfl⟩
  have SS : Aside (Blk (w.alloc (.cells #[.string lo, .string dm] 23)) H #[.string lo, .string dm] 23 ∧ Below H w (w.alloc (.cells #[.string lo, .string dm] 23))) := ⟨hH ▸ Blk.new (w := w) #[.string lo, .string dm] 23, (Below.refl _ w).alloc (by omega) _⟩
  rw [hH]
  obtain ⟨dt, hdt⟩ : ∃ t, (⟨d.toArray⟩ : ByteArray) = t := ⟨_, rfl⟩
  change ∀ W, Calls _ _ _ W (fun e' w' => e' = .returned (.tuple #[.string ⟨d.toArray⟩, .int .i64 e]) ∧ _) at hdm
  rw [hdt] at hdm
  clear hdt
  go_enter Tryz.func67, Tryz.ntmps67
  go_wp2_with (go_at_call 37; (with_reducible refine (hdm _).mono ?_); rintro e W_ ⟨rfl, hb_⟩; replace SS := Aside.mk (show Blk _ H _ _ ∧ Below H _ _ from ⟨SS.out.1.below hb_, SS.out.2.trans (hb_.mono (by have := SS.out.2.size; omega))⟩); clear hb_; have x0 := SS.out.1.cell 0 (.string lo) rfl; have x1 := SS.out.1.cell 1 (.string dm) rfl)
  go_ret
  exact ⟨rfl, SS.out.2⟩
set_option maxHeartbeats 2000000 in
theorem pathRight_e (lo dm : ByteArray) (d : List UInt8) (e : Int) (hd : Pt.domain dm.data.toList = (d, e)) (b64 : decide ((64 : Int) < (lo.size : Int)) = false) (b255 : decide ((255 : Int) < (dm.size : Int)) = false) (ed : dm.toList.isEmpty = true) (el : lo.toList.isEmpty = false) (ep : (lo.toList == [112, 111, 115, 116, 109, 97, 115, 116, 101, 114]) = false) (ee : (e != 0) = true)  (w : World) : Calls Tryz.prog 67 #[.agg #[.string lo, .string dm]] w fun e w' => e = .returned (.int .i64 2) ∧ Below w.heap.size w w' := by
  have hdm := fun W => domain_any dm W
  rw [hd] at hdm
  clear hd
  obtain ⟨H, hH⟩ : ∃ H, w.heap.size = H := ⟨_, rfl⟩
  have SS : Aside (Blk (w.alloc (.cells #[.string lo, .string dm] 23)) H #[.string lo, .string dm] 23 ∧ Below H w (w.alloc (.cells #[.string lo, .string dm] 23))) := ⟨hH ▸ Blk.new (w := w) #[.string lo, .string dm] 23, (Below.refl _ w).alloc (by omega) _⟩
  rw [hH]
  obtain ⟨dt, hdt⟩ : ∃ t, (⟨d.toArray⟩ : ByteArray) = t := ⟨_, rfl⟩
  change ∀ W, Calls _ _ _ W (fun e' w' => e' = .returned (.tuple #[.string ⟨d.toArray⟩, .int .i64 e]) ∧ _) at hdm
  rw [hdt] at hdm
  clear hdt
  go_enter Tryz.func67, Tryz.ntmps67
  go_wp2_with (go_at_call 37; (with_reducible refine (hdm _).mono ?_); rintro e W_ ⟨rfl, hb_⟩; replace SS := Aside.mk (show Blk _ H _ _ ∧ Below H _ _ from ⟨SS.out.1.below hb_, SS.out.2.trans (hb_.mono (by have := SS.out.2.size; omega))⟩); clear hb_; have x0 := SS.out.1.cell 0 (.string lo) rfl; have x1 := SS.out.1.cell 1 (.string dm) rfl)
  go_ret
  exact ⟨rfl, SS.out.2⟩
set_option maxHeartbeats 2000000 in
theorem pathRight_f (lo dm : ByteArray) (d : List UInt8) (e : Int) (hd : Pt.domain dm.data.toList = (d, e)) (b64 : decide ((64 : Int) < (lo.size : Int)) = false) (b255 : decide ((255 : Int) < (dm.size : Int)) = false) (ed : dm.toList.isEmpty = false) (ee : (e != 0) = true)  (w : World) : Calls Tryz.prog 67 #[.agg #[.string lo, .string dm]] w fun e w' => e = .returned (.int .i64 2) ∧ Below w.heap.size w w' := by
  have hdm := fun W => domain_any dm W
  rw [hd] at hdm
  clear hd
  obtain ⟨H, hH⟩ : ∃ H, w.heap.size = H := ⟨_, rfl⟩
  have SS : Aside (Blk (w.alloc (.cells #[.string lo, .string dm] 23)) H #[.string lo, .string dm] 23 ∧ Below H w (w.alloc (.cells #[.string lo, .string dm] 23))) := ⟨hH ▸ Blk.new (w := w) #[.string lo, .string dm] 23, (Below.refl _ w).alloc (by omega) _⟩
  rw [hH]
  obtain ⟨dt, hdt⟩ : ∃ t, (⟨d.toArray⟩ : ByteArray) = t := ⟨_, rfl⟩
  change ∀ W, Calls _ _ _ W (fun e' w' => e' = .returned (.tuple #[.string ⟨d.toArray⟩, .int .i64 e]) ∧ _) at hdm
  rw [hdt] at hdm
  clear hdt
  go_enter Tryz.func67, Tryz.ntmps67
  go_wp2_with (go_at_call 37; (with_reducible refine (hdm _).mono ?_); rintro e W_ ⟨rfl, hb_⟩; replace SS := Aside.mk (show Blk _ H _ _ ∧ Below H _ _ from ⟨SS.out.1.below hb_, SS.out.2.trans (hb_.mono (by have := SS.out.2.size; omega))⟩); clear hb_; have x0 := SS.out.1.cell 0 (.string lo) rfl; have x1 := SS.out.1.cell 1 (.string dm) rfl)
  go_ret
  exact ⟨rfl, SS.out.2⟩
set_option maxHeartbeats 2000000 in
theorem pathRight_g (lo dm : ByteArray) (d : List UInt8) (e : Int) (hd : Pt.domain dm.data.toList = (d, e)) (b64 : decide ((64 : Int) < (lo.size : Int)) = false) (b255 : decide ((255 : Int) < (dm.size : Int)) = false) (ed : dm.toList.isEmpty = false) (ee : (e != 0) = false) (en : ((⟨d.toArray⟩ : ByteArray).toList == dm.toList) = false) (en2 : ((⟨d.toArray⟩ : ByteArray).toList != dm.toList) = true)  (w : World) : Calls Tryz.prog 67 #[.agg #[.string lo, .string dm]] w fun e w' => e = .returned (.int .i64 2) ∧ Below w.heap.size w w' := by
  have hdm := fun W => domain_any dm W
  rw [hd] at hdm
  clear hd
  obtain ⟨H, hH⟩ : ∃ H, w.heap.size = H := ⟨_, rfl⟩
  have SS : Aside (Blk (w.alloc (.cells #[.string lo, .string dm] 23)) H #[.string lo, .string dm] 23 ∧ Below H w (w.alloc (.cells #[.string lo, .string dm] 23))) := ⟨hH ▸ Blk.new (w := w) #[.string lo, .string dm] 23, (Below.refl _ w).alloc (by omega) _⟩
  rw [hH]
  obtain ⟨dt, hdt⟩ : ∃ t, (⟨d.toArray⟩ : ByteArray) = t := ⟨_, rfl⟩
  change ∀ W, Calls _ _ _ W (fun e' w' => e' = .returned (.tuple #[.string ⟨d.toArray⟩, .int .i64 e]) ∧ _) at hdm
  rw [hdt] at hdm en en2
  clear hdt
  go_enter Tryz.func67, Tryz.ntmps67
  go_wp2_with (go_at_call 37; (with_reducible refine (hdm _).mono ?_); rintro e W_ ⟨rfl, hb_⟩; replace SS := Aside.mk (show Blk _ H _ _ ∧ Below H _ _ from ⟨SS.out.1.below hb_, SS.out.2.trans (hb_.mono (by have := SS.out.2.size; omega))⟩); clear hb_; have x0 := SS.out.1.cell 0 (.string lo) rfl; have x1 := SS.out.1.cell 1 (.string dm) rfl)
  go_ret
  exact ⟨rfl, SS.out.2⟩
set_option maxHeartbeats 2000000 in
theorem pathRight_h (lo dm : ByteArray) (d : List UInt8) (e : Int) (hd : Pt.domain dm.data.toList = (d, e)) (b64 : decide ((64 : Int) < (lo.size : Int)) = false) (b255 : decide ((255 : Int) < (dm.size : Int)) = false) (ed : dm.toList.isEmpty = false) (ee : (e != 0) = false) (en : ((⟨d.toArray⟩ : ByteArray).toList == dm.toList) = true) (en2 : ((⟨d.toArray⟩ : ByteArray).toList != dm.toList) = false) (el : lo.toList.isEmpty = true)  (w : World) : Calls Tryz.prog 67 #[.agg #[.string lo, .string dm]] w fun e w' => e = .returned (.int .i64 2) ∧ Below w.heap.size w w' := by
  have hdm := fun W => domain_any dm W
  rw [hd] at hdm
  clear hd
  obtain ⟨H, hH⟩ : ∃ H, w.heap.size = H := ⟨_, rfl⟩
  have SS : Aside (Blk (w.alloc (.cells #[.string lo, .string dm] 23)) H #[.string lo, .string dm] 23 ∧ Below H w (w.alloc (.cells #[.string lo, .string dm] 23))) := ⟨hH ▸ Blk.new (w := w) #[.string lo, .string dm] 23, (Below.refl _ w).alloc (by omega) _⟩
  rw [hH]
  obtain ⟨dt, hdt⟩ : ∃ t, (⟨d.toArray⟩ : ByteArray) = t := ⟨_, rfl⟩
  change ∀ W, Calls _ _ _ W (fun e' w' => e' = .returned (.tuple #[.string ⟨d.toArray⟩, .int .i64 e]) ∧ _) at hdm
  rw [hdt] at hdm en en2
  clear hdt
  go_enter Tryz.func67, Tryz.ntmps67
  go_wp2_with (go_at_call 37; (with_reducible refine (hdm _).mono ?_); rintro e W_ ⟨rfl, hb_⟩; replace SS := Aside.mk (show Blk _ H _ _ ∧ Below H _ _ from ⟨SS.out.1.below hb_, SS.out.2.trans (hb_.mono (by have := SS.out.2.size; omega))⟩); clear hb_; have x0 := SS.out.1.cell 0 (.string lo) rfl; have x1 := SS.out.1.cell 1 (.string dm) rfl)
  go_ret
  exact ⟨rfl, SS.out.2⟩
set_option maxHeartbeats 2000000 in
theorem pathRight_i (lo dm : ByteArray) (d : List UInt8) (e : Int) (hd : Pt.domain dm.data.toList = (d, e)) (b64 : decide ((64 : Int) < (lo.size : Int)) = false) (b255 : decide ((255 : Int) < (dm.size : Int)) = false) (ed : dm.toList.isEmpty = false) (ee : (e != 0) = false) (en : ((⟨d.toArray⟩ : ByteArray).toList == dm.toList) = true) (en2 : ((⟨d.toArray⟩ : ByteArray).toList != dm.toList) = false) (el : lo.toList.isEmpty = false)  (w : World) : Calls Tryz.prog 67 #[.agg #[.string lo, .string dm]] w fun e w' => e = .returned (.int .i64 (if Pt.shown lo.data.toList = true then 0 else 2)) ∧ Below w.heap.size w w' := by
  have hdm := fun W => domain_any dm W
  rw [hd] at hdm
  clear hd
  obtain ⟨H, hH⟩ : ∃ H, w.heap.size = H := ⟨_, rfl⟩
  have SS : Aside (Blk (w.alloc (.cells #[.string lo, .string dm] 23)) H #[.string lo, .string dm] 23 ∧ Below H w (w.alloc (.cells #[.string lo, .string dm] 23))) := ⟨hH ▸ Blk.new (w := w) #[.string lo, .string dm] 23, (Below.refl _ w).alloc (by omega) _⟩
  rw [hH]
  obtain ⟨dt, hdt⟩ : ∃ t, (⟨d.toArray⟩ : ByteArray) = t := ⟨_, rfl⟩
  change ∀ W, Calls _ _ _ W (fun e' w' => e' = .returned (.tuple #[.string ⟨d.toArray⟩, .int .i64 e]) ∧ _) at hdm
  rw [hdt] at hdm en en2
  clear hdt
  have hlo : lo.size ≤ 64 := by have := of_decide_eq_false b64; omega
  obtain ⟨sv, hsv⟩ : ∃ v, (if Pt.shown lo.data.toList = true then (0 : Int) else 2) = v := ⟨_, rfl⟩
  rw [hsv]
  have HS := Aside.mk hsv
  clear hsv
  have kb := fun W => Lib.run_convert_string_bytes (P := Tryz.prog) W 9 40 5 lo Tryz.underlying9 Tryz.underlying40 Tryz.underlying5
  go_enter Tryz.func67, Tryz.ntmps67
  go_wp2_with (go_at_call 37; (with_reducible refine (hdm _).mono ?_); rintro e W_ ⟨rfl, hb_⟩; replace SS := Aside.mk (show Blk _ H _ _ ∧ Below H _ _ from ⟨SS.out.1.below hb_, SS.out.2.trans (hb_.mono (by have := SS.out.2.size; omega))⟩); clear hb_; have x0 := SS.out.1.cell 0 (.string lo) rfl; have x1 := SS.out.1.cell 1 (.string dm) rfl)
  have hby : ∀ j, j < lo.size → (Lib.bytesWorld W_ 5 lo).cell? ⟨W_.heap.size, j, none⟩ = some (.int .u8 ((lo.data.toList.getD j 0).toNat : Int)) := fun j hj => Lib.bytesWorld_cell W_ 5 lo j hj
  have HBy := Aside.mk hby
  have L2 : Aside (Below H w (Lib.bytesWorld W_ 5 lo)) := ⟨((Chg.refl NoK W_).bytes 5 lo).below SS.out.2 (fun k q => q.elim) (by have := SS.out.2.size; omega)⟩
  clear hby x0 x1
  obtain ⟨W1, hW1⟩ : ∃ W1, Lib.bytesWorld W_ 5 lo = W1 := ⟨_, rfl⟩
  rw [hW1] at HBy L2 ⊢
  clear hW1
  go_loopw [56] (fun i wr => wr = W1 ∧ ∃ k : Nat, k ≤ lo.size ∧ i = .int .i64 k ∧ Pt.shown (lo.data.toList.take k) = true) (fun i _ => lo.size - (intOf i).toNat)
  case atStart => exact ⟨rfl, 0, by omega, rfl, rfl⟩
  case round =>
    obtain ⟨rfl, k, hk, rfl, hno⟩ := hrel
    have HA := Aside.mk hno
    clear hno
    by_cases hlt : k < lo.size
    · obtain ⟨ch, hch⟩ : ∃ c, lo.data.toList.getD k 0 = c := ⟨_, rfl⟩
      have HT := Aside.mk (take_shown lo k hlt ch hch)
      have zc := HBy.out k hlt
      rw [hch] at zc
      have HM := Aside.mk (mem_getD lo k hlt ch hch)
      clear hch
      have hcr := ch.toNat_lt
      by_cases e1 : ch.toNat < 32
      · have d1 : decide ((ch.toNat : Int) < 32) = true := decide_eq_true (by omega)
        have HF := Aside.mk (shown_not HM.out (by omega))
        clear e1
        go_wp2
        go_ret
        exact ⟨by rw [← HS.out, HF.out]; rfl, L2.out⟩
      · have d1 : decide ((ch.toNat : Int) < 32) = false := decide_eq_false (by omega)
        by_cases e2 : 126 < ch.toNat
        · have d2 : decide ((126 : Int) < (ch.toNat : Int)) = true := decide_eq_true (by omega)
          have HF := Aside.mk (shown_not HM.out (by omega))
          clear e1 e2
          go_wp2
          go_ret
          exact ⟨by rw [← HS.out, HF.out]; rfl, L2.out⟩
        · have d2 : decide ((126 : Int) < (ch.toNat : Int)) = false := decide_eq_false (by omega)
          have HN : Aside (Pt.shown (lo.data.toList.take (k + 1)) = true) := ⟨by rw [HT.out, HA.out, decide_eq_true (show 32 ≤ ch.toNat by omega), decide_eq_true (show ch.toNat ≤ 126 by omega)]; rfl⟩
          clear e1 e2
          go_wp2
          go_roundw
          case rel => exact ⟨by first | trivial | rfl, k + 1, by omega, by go_num, HN.out⟩
          case measure => first | (simp [intOf]; done) | (simp [intOf]; omega)
    · have hke : k = lo.size := by omega
      subst hke
      have hall := HA.out
      rw [List.take_of_length_le (show lo.data.toList.length ≤ lo.size by simp)] at hall
      have HF := Aside.mk hall
      clear hall
      go_wp2
      go_ret
      exact ⟨by rw [← HS.out, HF.out]; rfl, L2.out⟩
theorem pathRight_any (lo dm : ByteArray) (w : World) : Calls Tryz.prog 67 #[.agg #[.string lo, .string dm]] w fun e w' => e = .returned (.int .i64 (Pt.right lo.data.toList dm.data.toList)) ∧ Below w.heap.size w w' := by
  have hb := pathRight_bools lo dm
  obtain ⟨p, hp⟩ : ∃ p, Pt.domain dm.data.toList = p := ⟨_, rfl⟩
  obtain ⟨d, e⟩ := p
  have hed : dm.toList.isEmpty = true → (e != 0) = true := fun q => by
    rw [Lib.toList_data, List.isEmpty_iff] at q
    rw [q] at hp
    have : e = 2 := (congrArg Prod.snd hp).symm
    subst this
    rfl
  rw [hp] at hb
  simp only at hb
  rw [hb]
  cases b64 : decide ((64 : Int) < (lo.size : Int)) with
  | true => exact pathRight_a lo dm d e hp b64 w
  | false =>
    cases b255 : decide ((255 : Int) < (dm.size : Int)) with
    | true => exact pathRight_b lo dm d e hp b64 b255 w
    | false =>
      cases el : lo.toList.isEmpty with
      | true =>
        cases ed : dm.toList.isEmpty with
        | true => exact pathRight_c lo dm d e hp b64 b255 ed el w
        | false =>
          cases ee : (e != 0) with
          | true => exact pathRight_f lo dm d e hp b64 b255 ed ee w
          | false =>
            cases en : ((⟨d.toArray⟩ : ByteArray).toList == dm.toList) with
            | true => exact pathRight_h lo dm d e hp b64 b255 ed ee en (by rw [bne, en]; rfl) el w
            | false => exact pathRight_g lo dm d e hp b64 b255 ed ee en (by rw [bne, en]; rfl) w
      | false =>
        cases ed : dm.toList.isEmpty with
        | true =>
          cases ep : (lo.toList == [112, 111, 115, 116, 109, 97, 115, 116, 101, 114]) with
          | true => exact pathRight_d lo dm d e hp b64 b255 ed el ep w
          | false =>
            rw [hed ed]
            exact pathRight_e lo dm d e hp b64 b255 ed el ep (hed ed) w
        | false =>
          cases ee : (e != 0) with
          | true => exact pathRight_f lo dm d e hp b64 b255 ed ee w
          | false =>
            cases en : ((⟨d.toArray⟩ : ByteArray).toList == dm.toList) with
            | true => exact pathRight_i lo dm d e hp b64 b255 ed ee en (by rw [bne, en]; rfl) el w
            | false => exact pathRight_g lo dm d e hp b64 b255 ed ee en (by rw [bne, en]; rfl) w
end Go.Proofs.YtllhbcpbihhdnaaGreatDoor
end
section
set_option linter.unusedVariables false
set_option linter.unusedSimpArgs false
namespace Go.Proofs.YtllhbcpbihhdnaaGreatDoor
open Go.RowKit
set_option maxRecDepth 100000
/-- A builder at block b, its row from R on, and not in block q. -/
structure Bq (b R q : Nat) (l : List UInt8) (w : World) : Prop where
  lt : b < R
  ne : q ≠ b
  ql : q < w.heap.size
  ex : ∃ p v, (p = .pointer none ∨ p = .pointer (some ⟨b, 0, none⟩)) ∧ Blk w b #[p, v] 94 ∧ w.ownsRow R 5 1 v l.length (Lib.byteCells l) ∧ v.ownBlock ≠ some q
theorem Bq.bd {b R q : Nat} {l : List UInt8} {w : World} (h : Bq b R q l w) : Bd b R l w := by
  obtain ⟨p, v, hp, hk, ho, _⟩ := h.ex
  exact ⟨h.lt, p, v, hp, hk, ho⟩
/-- A builder, and a block that is laid behind it. -/
theorem Bd.bq {b R : Nat} {l : List UInt8} {w w' : World} (h : Bd b R l w) (hb : Below w.heap.size w w') (q : Nat) (h1 : w.heap.size ≤ q) (h2 : q < w'.heap.size) : Bq b R q l w' := by
  have hbl := h.blk
  obtain ⟨p, v, hp, hk, ho⟩ := h.ex
  refine ⟨h.lt, by omega, h2, p, v, hp, hk.below hb, ?_, fun e => by have := (World.ownsRow.lt ho q e).2; omega⟩
  refine ho.kept (row := none) ⟨hb.os, hb.tape, hb.output, hb.size, fun i hi _ => hb.block i hi⟩ ?_
  cases v.ownBlock with
  | none => exact .inl rfl
  | some k => exact .inr (by simp)
section
variable {ops : Array Oper} {rest : List Oper} {o : Oper} {a : Act} {w : World} {Q : Exit → Act → World → Prop}
theorem app_u8q (hgd : o.guard = none) (s x : Operand) (ho : o.op = .call { callee := .builtin .append, args := #[s, x], argTypes := #[40, 40] }) (R : Nat) (v : Value) (l : List UInt8) (hs : a.eval s = v)
    (hown : w.ownsRow R 5 1 v l.length (Lib.byteCells l)) (g0 : Nat) (hx : a.eval x = .slice (some ⟨g0, 0, none⟩) 1 1) (c : UInt8) (hc : w.heap[g0]? = some (.cells #[.int .u8 c.toNat] 5 (0, 0))) (hn : l.length ≤ 1000000000) (hbase : R ≤ w.heap.size) (H : Nat) (hH : w.heap.size = H)
    (h : ∀ g cap w', w'.ownsRow R 5 1 (.slice (some ⟨g, 0, none⟩) (l.length + 1) cap) (l ++ [c]).length (Lib.byteCells (l ++ [c])) → w.grownBy w' v.ownBlock → (v.ownBlock = some g ∨ g = H) → wpList Tryz.prog ops Q rest (a.put o.dst (.slice (some ⟨g, 0, none⟩) (l.length + 1) cap)) w') :
    wpList Tryz.prog ops Q (o :: rest) a w := by
  obtain ⟨i, hi, hz, hsz, hby⟩ := u8Info
  refine wpList_append_lies w hgd s x 40 ho R 5 i (.int .u8 0) 1 1 Tryz.underlying40 hi hz hsz hby rfl (by omega) v l.length (Lib.byteCells l) hs hown ⟨g0, 0, none⟩ 1 1 [.int .u8 c.toNat] hx rfl
    (by have := World.news_of_block hc; simpa using this) (by simp [Value.oneCell']) (by omega) (by unfold maxLen; omega) (by omega) hbase H hH ?_
  intro g cap w' h1 h2 h3 h4
  refine h g cap w' ?_ h2 h3
  rw [← byteCells_snoc]
  simpa using h1
end
set_option maxHeartbeats 4000000 in
theorem writeByteQ_of (b R q : Nat) (l : List UInt8) (c : UInt8) (w w1 : World) (v : Value) (hlt : b < R) (hqb : q ≠ b) (hq : q < w1.heap.size) (hvq : v.ownBlock ≠ some q) (hk : Blk w1 b #[.pointer (some ⟨b, 0, none⟩), v] 94) (ho : w1.ownsRow R 5 1 v l.length (Lib.byteCells l)) (hl : l.length ≤ 1000000000) (hR : R ≤ w1.heap.size) (hC : Chg (fun k => k = b ∨ (R ≤ k ∧ k ≠ q)) w w1)
    (hcc : Calls Tryz.prog 100 #[.pointer (some ⟨b, 0, none⟩)] w fun e w' => e = .returned (.tuple #[]) ∧ w' = w1) :
    Calls Tryz.prog 68 #[.pointer (some ⟨b, 0, none⟩), .int .u8 c.toNat] w fun e w' => e = .returned .nilIface ∧ Bq b R q (l ++ [c]) w' ∧ Chg (fun k => k = b ∨ (R ≤ k ∧ k ≠ q)) w w' := by
  have z1 := hk.cell 1 _ rfl
  have y1 := hk.free 1
  have HC := Aside.mk hC
  have HO := Aside.mk ho
  have HK := Aside.mk hk
  have HV := Aside.mk hvq
  have zl := hk.lt
  clear hC ho hk hvq
  go_enter Tryz.func68, Tryz.ntmps68
  go_wp2_with (first | (go_at_call 100; (with_reducible refine hcc.mono ?_); rintro e w' ⟨rfl, hw⟩; subst hw) | (at_builtin; refine app_u8q rfl _ _ rfl R _ l (by rfl) (World.ownsRow.alloc HO.out _) w'.heap.size (by rfl) c (heap_alloc_new _ _) hl (by simp; omega) _ rfl ?_; intro g cap w4 hr4 hg4 hgq; have hne := Aside.mk (fun e_ => by have := (World.ownsRow.lt HO.out b e_).1; omega : v.ownBlock ≠ some b); have hK4 : Aside (Blk w4 b _ _) := Aside.mk ((hg4.block b (by simp; omega) (fun e_ => hne.out e_.symm)).trans (HK.out.old _)); have hC4 := Aside.mk ((HC.out.alloc (.cells #[.int .u8 c.toNat] 5)).grown hg4 (fun k e_ _ => .inr ⟨(World.ownsRow.lt HO.out k e_).1, fun e2 => HV.out (e2 ▸ e_)⟩)); have hG := Aside.mk (show g ≠ q from by rcases hgq with h_ | h_; exact fun e_ => HV.out (e_ ▸ h_); simp at h_; omega); have hZ := Aside.mk (show q < w4.heap.size from by have := hg4.size; simp at this; omega); have R4 := Aside.mk hr4; clear hr4 hg4 hgq z1 y1 zl; have z1 := Blk.cell hK4.out 1 _ rfl; have y1 := Blk.free hK4.out 1; have zl := Blk.lt hK4.out))
  go_ret
  refine ⟨rfl, ⟨hlt, hqb, by simpa using hZ.out, _, _, .inr rfl, by simpa using Blk.set hK4.out 1 _, ?_, by simpa [Value.ownBlock] using hG.out⟩, hC4.out.setCell (fun _ => .inl rfl) _⟩
  exact R4.out.kept (row := some b) ⟨rfl, rfl, rfl, by simp [World.setCell], fun k _ hk => Below.heap_setCell _ _ _ _ (fun e => hk (by simp [e]))⟩ (Or.inr (fun e_ => by have := (World.ownsRow.lt R4.out b e_).1; omega))
theorem writeByteQ (b R q : Nat) (l : List UInt8) (c : UInt8) (w : World) (h : Bq b R q l w) (hl : l.length ≤ 1000000000) (hR : R ≤ w.heap.size) :
    Calls Tryz.prog 68 #[.pointer (some ⟨b, 0, none⟩), .int .u8 c.toNat] w fun e w' => e = .returned .nilIface ∧ Bq b R q (l ++ [c]) w' ∧ Chg (fun k => k = b ∨ (R ≤ k ∧ k ≠ q)) w w' := by
  obtain ⟨p, v, hp, hk, ho, hv⟩ := h.ex
  rcases hp with rfl | rfl
  · exact writeByteQ_of b R q l c w (w.setCell ⟨b, 0, none⟩ (.pointer (some ⟨b, 0, none⟩))) v h.lt h.ne (by simpa using h.ql) hv (by simpa using hk.set 0 (.pointer (some ⟨b, 0, none⟩))) (ho.kept (row := some b) ⟨rfl, rfl, rfl, by simp [World.setCell], fun k _ hk => Below.heap_setCell _ _ _ _ (fun e => hk (by simp [e]))⟩ (Or.inr (fun e_ => by have := (World.ownsRow.lt ho b e_).1; have := h.lt; omega))) hl (by simpa using hR)
      ((Chg.refl _ w).setCell (fun _ => .inl rfl) _) (Any.Builder_copyCheck_fresh { Tryz.bld_lays with } Tryz.bld_extra.toX72 b w (hk.cell 0 _ rfl) (by unfold World.shape?; rw [show w.heap[b]? = _ from hk]; rfl) (hk.free 0))
  · exact writeByteQ_of b R q l c w w v h.lt h.ne h.ql hv hk ho hl hR (Chg.refl _ w) (Any.Builder_copyCheck_used { Tryz.bld_lays with } Tryz.bld_extra.toX72 b w (hk.cell 0 _ rfl))
theorem writeByteQ_n (b R q : Nat) (l : List UInt8) (c : UInt8) (w : World) (h : Bq b R q l w) (hl : l.length ≤ 1000000000) (hR : R ≤ w.heap.size) (n : Int) (hn : n = c.toNat) :
    Calls Tryz.prog 68 #[.pointer (some ⟨b, 0, none⟩), .int .u8 n] w fun e w' => e = .returned .nilIface ∧ Bq b R q (l ++ [c]) w' ∧ Chg (fun k => k = b ∨ (R ≤ k ∧ k ≠ q)) w w' := hn ▸ writeByteQ b R q l c w h hl hR
end Go.Proofs.YtllhbcpbihhdnaaGreatDoor
end
section
set_option linter.unusedVariables false
set_option linter.unusedSimpArgs false
namespace Pt
theorem q_34 (r acc : List UInt8) : qrun (34 :: r) acc = some (acc, r) := by cases r <;> simp [qrun]
theorem q_end (acc : List UInt8) : qrun [92] acc = none := by simp [qrun]
theorem q_esc (d : UInt8) (r acc : List UInt8) (h : 32 ≤ d.toNat ∧ d.toNat ≤ 126) : qrun (92 :: d :: r) acc = qrun r (acc ++ [d]) := by rw [qrun, if_neg (by decide), if_pos rfl, if_pos h]
theorem q_esc_bad (d : UInt8) (r acc : List UInt8) (h : ¬ (32 ≤ d.toNat ∧ d.toNat ≤ 126)) : qrun (92 :: d :: r) acc = none := by rw [qrun, if_neg (by decide), if_pos rfl, if_neg h]
theorem q_char (c : UInt8) (r acc : List UInt8) (h1 : c ≠ 34) (h2 : c ≠ 92) (h : 32 ≤ c.toNat ∧ c.toNat ≤ 126) : qrun (c :: r) acc = qrun r (acc ++ [c]) := by
  cases r with
  | nil => simp [qrun, h1]
  | cons d r => rw [qrun, if_neg h1, if_neg h2, if_pos h]
theorem q_bad (c : UInt8) (r acc : List UInt8) (h1 : c ≠ 34) (h2 : c ≠ 92) (h : ¬ (32 ≤ c.toNat ∧ c.toNat ≤ 126)) : qrun (c :: r) acc = none := by
  cases r with
  | nil => simp [qrun, h1]
  | cons d r => rw [qrun, if_neg h1, if_neg h2, if_neg h]
/-- quoted's answer. -/
def quo (s : List UInt8) : List UInt8 × List UInt8 × Bool := match qrun (s.drop 1) [] with
  | some (lo, rest) => (lo, rest, true)
  | none => ([], [], false)
theorem quo_some {s lo rest : List UInt8} (h : qrun (s.drop 1) [] = some (lo, rest)) : quo s = (lo, rest, true) := by unfold quo; rw [h]
theorem quo_none {s : List UInt8} (h : qrun (s.drop 1) [] = none) : quo s = ([], [], false) := by unfold quo; rw [h]
end Pt
namespace Go.Proofs.YtllhbcpbihhdnaaGreatDoor
open Go.RowKit Go.Shelf
set_option maxRecDepth 100000
theorem drop_cons (s : ByteArray) (k : Nat) (h : k < s.size) : s.data.toList.drop k = s[k] :: s.data.toList.drop (k + 1) := by
  have hl : k < s.data.toList.length := by simpa using h
  rw [List.drop_eq_getElem_cons hl]
  rfl
theorem ext_drop (s : ByteArray) (k : Nat) : s.data.extract k s.size = (s.data.toList.drop k).toArray := by
  apply Array.ext'
  have e : s.data.toList.length = s.size := by simp
  rw [Array.toList_extract, List.extract_eq_take_drop, List.toList_toArray]
  exact List.take_of_length_le (by rw [List.length_drop, e]; exact Nat.le_refl _)
structure QuR (w : World) (l : List UInt8) (W : World) : Prop where
  bld : Bd w.heap.size (w.heap.size + 1) l W
  low : Below w.heap.size w W
  sz : w.heap.size + 1 ≤ W.heap.size
theorem QuR.wrote {w : World} {l l' : List UInt8} {W W' : World} (h : QuR w l W) (hb : Bd w.heap.size (w.heap.size + 1) l' W') (hc : Chg (fun k => k = w.heap.size ∨ w.heap.size + 1 ≤ k) W W') : QuR w l' W' :=
  ⟨hb, hc.below h.low (fun k hk => by omega) (by have := h.sz; omega), Nat.le_trans h.sz hc.size⟩
theorem QuR.next {w : World} {l : List UInt8} {W W' : World} (h : QuR w l W) (hb : Below W.heap.size W W') : QuR w l W' :=
  ⟨h.bld.next hb, h.low.trans (hb.mono (by have := h.low.size; omega)), Nat.le_trans h.sz hb.size⟩
/-- A builder that may be read. -/
structure QuF (w : World) (l : List UInt8) (W : World) : Prop where
  bld : Lib.IsBuilderF 94 5 w.heap.size w.heap.size (Lib.byteCells l) W
  low : Below w.heap.size w W
theorem QuR.f {w : World} {l : List UInt8} {W : World} (h : QuR w l W) : QuF w l W := ⟨Lib.IsBuilderF.of (h.bld.old (Nat.le_refl _)), h.low⟩
theorem u8_ne {c d : UInt8} (h : c ≠ d) : ((c.toNat : Int) == (d.toNat : Int)) = false := by
  rw [beq_eq_false_iff_ne]
  intro q
  exact h (UInt8.toNat_inj.1 (by omega))
set_option maxHeartbeats 8000000 in
theorem quoted_any (s : ByteArray) (h0 : 0 < s.size) (hs : s.size ≤ 100000000) (w : World) : Calls Tryz.prog 33 #[.string s] w fun e w' => e = .returned (.tuple #[.string ⟨(Pt.quo s.data.toList).1.toArray⟩, .string ⟨(Pt.quo s.data.toList).2.1.toArray⟩, .bool (Pt.quo s.data.toList).2.2]) ∧ Below w.heap.size w w' := by
  have hds : s.data.toList.length = s.size := by simp
  go_enter Tryz.func33, Tryz.ntmps33
  go_wp2
  have HR : Aside (QuR w [] (w.alloc (.cells #[.pointer none, .slice none 0 0] 94))) := ⟨⟨Bd.new (by omega) (Blk.new _ _), (Below.refl _ w).alloc (Nat.le_refl _) _, by simp⟩⟩
  generalize w.alloc (.cells #[.pointer none, .slice none 0 0] 94) = W at HR ⊢
  go_loopw [6] (fun i wr => ∃ (k : Nat) (acc : List UInt8), k ≤ s.size ∧ 1 ≤ k ∧ i = .int .i64 k ∧ acc.length ≤ k ∧ Pt.qrun (s.data.toList.drop 1) [] = Pt.qrun (s.data.toList.drop k) acc ∧ QuR w acc wr) (fun i _ => s.size - (intOf i).toNat)
  case atStart => exact ⟨1, [], by omega, by omega, rfl, by simp, rfl, HR.out⟩
  case round =>
    clear HR
    obtain ⟨k, acc, hk, hk1, rfl, hal, hq, hr⟩ := hrel
    have R := Aside.mk hr
    have HQ := Aside.mk hq
    clear hr hq
    by_cases hlt : k < s.size
    · have hdc := drop_cons s k hlt
      obtain ⟨c, hc⟩ : ∃ c, s[k] = c := ⟨_, rfl⟩
      rw [hc] at hdc
      have HDC := Aside.mk hdc
      clear hdc
      have hal2 : acc.length ≤ 1000000000 := by omega
      have HAL := Aside.mk hal2
      clear hal2
      have hcr := c.toNat_lt
      by_cases c34 : c = 34
      · subst c34
        have HF := Aside.mk (Pt.quo_some (HQ.out.trans (by rw [HDC.out, Pt.q_34])))
        have hsl : ¬ (s.size : Int) < (k : Int) + 1 := by omega
        have hsl2 : (k : Int) + 1 ≤ (s.size : Int) := by omega
        have w1 : IntKind.i64.wrap ((k : Int) + 1) = (k : Int) + 1 := IntWalk.i64_in _ (by omega)
        have hsn : (0 : Int) ≤ (k : Int) + 1 := by omega
        have hst : ((k : Int) + 1).toNat = k + 1 := by omega
        go_wp2
        refine region_class (C := (fun w' => QuF w acc w')) (by kernel_rfl) (by kernel_rfl) (R.out.next (pw_below_drewN (Below.refl _ _) 1)).f ?_
        refine q_call ?_ (.string ⟨acc.toArray⟩) ?_ ?_ ?_ ?_ ?_
        · kernel_rfl
        rotate_left 2
        · intro w_ hw_
          go_simp
          refine ⟨?_, ?_⟩ <;> with_reducible rfl
        · intro w_ hw_
          skip
          exact (Tryz.Builder_String_any_f _ _ acc _ hw_.bld hw_.low.size).mono fun _ _ ⟨h1_, h2_, h3_⟩ => ⟨h1_, ⟨h2_, hw_.low.trans h3_⟩⟩
        try simp only [Act.put, List.setIfInBounds_toArray, List.set_cons_zero, List.set_cons_succ]
        refine q_run ?_ ?_ ?_ ?_
        · kernel_rfl
        rotate_left
        · intro w_ hw_
          skip
          first | (go_simp; done) | (go_simp; with_reducible rfl) | (go_simp; rw [if_neg (by first | omega | (simp; omega))])
        try simp only [Act.put, List.setIfInBounds_toArray, List.set_cons_zero, List.set_cons_succ]
        refine q_run ?_ ?_ ?_ ?_
        · kernel_rfl
        rotate_left
        · intro w_ hw_
          skip
          first | (go_simp; done) | (go_simp; with_reducible rfl) | (go_simp; rw [if_neg (by first | omega | (simp; omega))])
        try simp only [Act.put, List.setIfInBounds_toArray, List.set_cons_zero, List.set_cons_succ]
        refine q_run ?_ ?_ ?_ ?_
        · kernel_rfl
        rotate_left
        · intro w_ hw_
          skip
          first | (go_simp; done) | (go_simp; with_reducible rfl) | (go_simp; rw [if_neg (by first | omega | (simp; omega))])
        try simp only [Act.put, List.setIfInBounds_toArray, List.set_cons_zero, List.set_cons_succ]
        refine q_run ?_ ?_ ?_ ?_
        · kernel_rfl
        rotate_left
        · intro w_ hw_
          skip
          first | (go_simp; done) | (go_simp; with_reducible rfl) | (go_simp; rw [if_neg (by first | omega | (simp; omega))])
        try simp only [Act.put, List.setIfInBounds_toArray, List.set_cons_zero, List.set_cons_succ]
        refine q_run ?_ ?_ ?_ ?_
        · kernel_rfl
        rotate_left
        · intro w_ hw_
          skip
          first | (go_simp; done) | (go_simp; with_reducible rfl) | (go_simp; rw [if_neg (by first | omega | (simp; omega))])
        try simp only [Act.put, List.setIfInBounds_toArray, List.set_cons_zero, List.set_cons_succ]
        refine q_run ?_ ?_ ?_ ?_
        · kernel_rfl
        rotate_left
        · intro w_ hw_
          skip
          first | (go_simp; done) | (go_simp; with_reducible rfl) | (go_simp; rw [if_neg (by first | omega | (simp; omega))])
        try simp only [Act.put, List.setIfInBounds_toArray, List.set_cons_zero, List.set_cons_succ]
        refine q_run ?_ ?_ ?_ ?_
        · kernel_rfl
        rotate_left
        · intro w_ hw_
          skip
          first | (go_simp; done) | (go_simp; with_reducible rfl) | (go_simp; rw [if_neg (by first | omega | (simp; omega))])
        try simp only [Act.put, List.setIfInBounds_toArray, List.set_cons_zero, List.set_cons_succ]
        refine q_nil ?_
        intro W_ hC_
        go_wp2
        go_ret3
        refine ⟨?_, hC_.low⟩
        rw [HF.out]
        simp [ByteArray.ext_iff, ext_drop]
      · have b34 : ((c.toNat : Int) == 34) = false := u8_ne c34
        by_cases c92 : c = 92
        · subst c92
          clear b34
          by_cases hlt2 : k + 1 < s.size
          · have hdc2 := drop_cons s (k + 1) hlt2
            obtain ⟨d, hd⟩ : ∃ d, s[k + 1] = d := ⟨_, rfl⟩
            rw [hd] at hdc2
            have HD2 := Aside.mk hdc2
            clear hdc2
            have dlt : decide ((k : Int) + 1 < (s.size : Int)) = true := decide_eq_true (by omega)
            have hdr := d.toNat_lt
            have w1 : IntKind.i64.wrap ((k : Int) + 1) = (k : Int) + 1 := IntWalk.i64_in _ (by omega)
            by_cases e1 : d.toNat < 32
            · have d1 : decide ((d.toNat : Int) < 32) = true := decide_eq_true (by omega)
              have HF := Aside.mk (Pt.quo_none (HQ.out.trans (by rw [HDC.out, HD2.out, Pt.q_esc_bad d _ _ (by omega)])))
              clear e1
              go_wp2
              go_ret3
              exact ⟨by rw [HF.out]; rfl, R.out.low⟩
            · have d1 : decide ((d.toNat : Int) < 32) = false := decide_eq_false (by omega)
              by_cases e2 : 126 < d.toNat
              · have d2 : decide ((126 : Int) < (d.toNat : Int)) = true := decide_eq_true (by omega)
                have HF := Aside.mk (Pt.quo_none (HQ.out.trans (by rw [HDC.out, HD2.out, Pt.q_esc_bad d _ _ (by omega)])))
                clear e1 e2
                go_wp2
                go_ret3
                exact ⟨by rw [HF.out]; rfl, R.out.low⟩
              · have d2 : decide ((126 : Int) < (d.toNat : Int)) = false := decide_eq_false (by omega)
                have HN := Aside.mk (HQ.out.trans (by rw [HDC.out, HD2.out, Pt.q_esc d _ _ ⟨by omega, by omega⟩]))
                clear e1 e2
                go_wp2_with (go_at_call 68; (with_reducible refine (writeByte_any _ _ acc d _ R.out.bld HAL.out R.out.sz).mono ?_); rintro e w2 ⟨rfl, hb, hch⟩; replace R := Aside.mk (R.out.wrote hb hch); clear hb hch)
                go_roundw
                case rel => exact ⟨k + 2, acc ++ [d], by omega, by omega, by go_num, by simp; omega, HN.out, R.out⟩
                case measure => first | (simp [intOf]; done) | (simp [intOf]; omega)
          · have dlt : decide ((k : Int) + 1 < (s.size : Int)) = false := decide_eq_false (by omega)
            have HF := Aside.mk (Pt.quo_none (HQ.out.trans (by rw [HDC.out, List.drop_of_length_le (show s.data.toList.length ≤ k + 1 by omega), Pt.q_end])))
            go_wp2
            go_ret3
            exact ⟨by rw [HF.out]; rfl, R.out.low⟩
        · have b92 : ((c.toNat : Int) == 92) = false := u8_ne c92
          by_cases e1 : c.toNat < 32
          · have d1 : decide ((c.toNat : Int) < 32) = true := decide_eq_true (by omega)
            have HF := Aside.mk (Pt.quo_none (HQ.out.trans (by rw [HDC.out, Pt.q_bad c _ _ c34 c92 (by omega)])))
            clear e1 c34 c92
            go_wp2
            go_ret3
            exact ⟨by rw [HF.out]; rfl, R.out.low⟩
          · have d1 : decide ((c.toNat : Int) < 32) = false := decide_eq_false (by omega)
            by_cases e2 : 126 < c.toNat
            · have d2 : decide ((126 : Int) < (c.toNat : Int)) = true := decide_eq_true (by omega)
              have HF := Aside.mk (Pt.quo_none (HQ.out.trans (by rw [HDC.out, Pt.q_bad c _ _ c34 c92 (by omega)])))
              clear e1 e2 c34 c92
              go_wp2
              go_ret3
              exact ⟨by rw [HF.out]; rfl, R.out.low⟩
            · have d2 : decide ((126 : Int) < (c.toNat : Int)) = false := decide_eq_false (by omega)
              have HN := Aside.mk (HQ.out.trans (by rw [HDC.out, Pt.q_char c _ _ c34 c92 ⟨by omega, by omega⟩]))
              clear e1 e2 c34 c92
              go_wp2_with (go_at_call 68; (with_reducible refine (writeByte_any _ _ acc c _ R.out.bld HAL.out R.out.sz).mono ?_); rintro e w2 ⟨rfl, hb, hch⟩; replace R := Aside.mk (R.out.wrote hb hch); clear hb hch)
              go_roundw
              case rel => exact ⟨k + 1, acc ++ [c], by omega, by omega, by go_num, by simp; omega, HN.out, R.out⟩
              case measure => first | (simp [intOf]; done) | (simp [intOf]; omega)
    · have hke : k = s.size := by omega
      have HF := Aside.mk (Pt.quo_none (HQ.out.trans (by rw [List.drop_of_length_le (show s.data.toList.length ≤ k by omega)]; rfl)))
      subst hke
      go_wp2
      go_ret3
      exact ⟨by rw [HF.out]; rfl, R.out.low⟩
end Go.Proofs.YtllhbcpbihhdnaaGreatDoor
end
section
set_option linter.unusedVariables false
set_option linter.unusedSimpArgs false
namespace Pt
theorem esc_snoc (l : List UInt8) (c : UInt8) : esc (l ++ [c]) = esc l ++ esc1 c := by simp [esc]
theorem esc_len (l : List UInt8) : (esc l).length ≤ 2 * l.length := by
  induction l with
  | nil => simp [esc]
  | cons c l ih =>
    have : (esc1 c).length ≤ 2 := by unfold esc1; split <;> simp
    have e : esc (c :: l) = esc1 c ++ esc l := by simp [esc]
    rw [e, List.length_append, List.length_cons]
    omega
end Pt
namespace Go.Proofs.YtllhbcpbihhdnaaGreatDoor
open Go.RowKit Go.Shelf
set_option maxRecDepth 100000
def ptText (lo dm : ByteArray) : ByteArray := ⟨(Pt.text lo.data.toList dm.data.toList).toArray⟩
theorem text_null (lo dm : ByteArray) (h : dm.toList.isEmpty = true) : (⟨#[60]⟩ : ByteArray) ++ lo ++ ⟨#[62]⟩ = ptText lo dm := by
  rw [Lib.toList_data, List.isEmpty_iff] at h
  unfold ptText Pt.text
  rw [if_pos h]
  apply ByteArray.ext
  simp
theorem text_dom (lo dm t : ByteArray) (h : dm.toList.isEmpty = false) (ht : t = ⟨(Pt.local_ lo.data.toList).toArray⟩) : (⟨#[60]⟩ : ByteArray) ++ t ++ ⟨#[64]⟩ ++ dm ++ ⟨#[62]⟩ = ptText lo dm := by
  rw [Lib.toList_data] at h
  have h2 : dm.data.toList ≠ [] := by intro q; rw [q] at h; cases h
  subst ht
  unfold ptText Pt.text
  rw [if_neg h2]
  apply ByteArray.ext
  simp
structure PrR (lo dm : ByteArray) (H b q : Nat) (w : World) (l : List UInt8) (W : World) : Prop where
  bld : Bq b (b + 1) q l W
  blk : Blk W H #[.string lo, .string dm] 23
  low : Below H w W
  row : ∀ j, j < lo.size → W.cell? ⟨q, j, none⟩ = some (.int .u8 ((lo.data.toList.getD j 0).toNat : Int))
  sz : b + 1 ≤ W.heap.size
  hb : H < b
theorem PrR.wrote {lo dm : ByteArray} {H b q : Nat} {w : World} {l l' : List UInt8} {W W' : World} (h : PrR lo dm H b q w l W) (hb : Bq b (b + 1) q l' W') (hc : Chg (fun k => k = b ∨ (b + 1 ≤ k ∧ k ≠ q)) W W') : PrR lo dm H b q w l' W' :=
  ⟨hb, h.blk.chg hc (by have := h.hb; omega), hc.below h.low (fun k hk => by have := h.hb; omega) (by have := h.sz; have := h.hb; omega), fun j hj => hc.cellAt (h.row j hj) (by have := h.bld.ne; simp; omega), Nat.le_trans h.sz hc.size, h.hb⟩
set_option maxHeartbeats 8000000 in
theorem pathPrint_bad (lo dm : ByteArray) (r : Int) (hr : Pt.right lo.data.toList dm.data.toList = r) (h0 : r ≠ 0) (w : World) : Calls Tryz.prog 26 #[.agg #[.string lo, .string dm]] w fun e w' => e = .returned (.tuple #[.string ⟨#[]⟩, .int .i64 r]) ∧ Below w.heap.size w w' := by
  have hR := fun W => pathRight_any lo dm W
  rw [hr] at hR
  have e0 : ((r : Int) == 0) = false := by simpa using h0
  have e1 : ((r : Int) != 0) = true := by simpa using h0
  clear hr
  obtain ⟨H, hH⟩ : ∃ H, w.heap.size = H := ⟨_, rfl⟩
  have SS : Aside (Blk (w.alloc (.cells #[.string lo, .string dm] 23)) H #[.string lo, .string dm] 23 ∧ Below H w (w.alloc (.cells #[.string lo, .string dm] 23))) := ⟨hH ▸ Blk.new (w := w) #[.string lo, .string dm] 23, (Below.refl _ w).alloc (by omega) _⟩
  rw [hH]
  go_enter Tryz.func26, Tryz.ntmps26
  go_wp2_with (first | ((with_reducible refine at_dst (N := 9) rfl ?_); refine load_blk rfl 23 _ (by rfl) H (by rfl) #[.string lo, .string dm] 23 _ SS.out.1 Tryz.underlying23 rfl (by kernel_rfl) ?_) | (go_at_call 67; (with_reducible refine (hR _).mono ?_); rintro e W_ ⟨rfl, hb_⟩; replace SS := Aside.mk (show Blk _ H _ _ ∧ Below H _ _ from ⟨SS.out.1.below hb_, SS.out.2.trans (hb_.mono (by have := SS.out.2.size; omega))⟩); clear hb_; have x0 := SS.out.1.cell 0 (.string lo) rfl; have x1 := SS.out.1.cell 1 (.string dm) rfl))
  go_ret2
  exact ⟨rfl, SS.out.2⟩
set_option maxHeartbeats 8000000 in
theorem pathPrint_null (lo dm : ByteArray) (hr : Pt.right lo.data.toList dm.data.toList = 0) (hd : dm.toList.isEmpty = true) (w : World) : Calls Tryz.prog 26 #[.agg #[.string lo, .string dm]] w fun e w' => e = .returned (.tuple #[.string (ptText lo dm), .int .i64 0]) ∧ Below w.heap.size w w' := by
  have hR := fun W => pathRight_any lo dm W
  rw [hr] at hR
  obtain ⟨k1, k2, _⟩ := Pt.right_cases hr
  have hl1 : lo.size ≤ 64 := by have : lo.data.toList.length = lo.size := by simp
                                omega
  have hl2 : dm.size ≤ 255 := by have : dm.data.toList.length = dm.size := by simp
                                 omega
  clear k1 k2 hr
  have o1 : ¬ 9223372036854775807 < 1 + lo.size := by omega
  have o2 : ¬ 9223372036854775807 < 1 + lo.size + 1 := by omega
  have HT := Aside.mk (text_null lo dm hd)
  obtain ⟨H, hH⟩ : ∃ H, w.heap.size = H := ⟨_, rfl⟩
  have SS : Aside (Blk (w.alloc (.cells #[.string lo, .string dm] 23)) H #[.string lo, .string dm] 23 ∧ Below H w (w.alloc (.cells #[.string lo, .string dm] 23))) := ⟨hH ▸ Blk.new (w := w) #[.string lo, .string dm] 23, (Below.refl _ w).alloc (by omega) _⟩
  rw [hH]
  go_enter Tryz.func26, Tryz.ntmps26
  go_wp2_with (first | ((with_reducible refine at_dst (N := 9) rfl ?_); refine load_blk rfl 23 _ (by rfl) H (by rfl) #[.string lo, .string dm] 23 _ SS.out.1 Tryz.underlying23 rfl (by kernel_rfl) ?_) | (go_at_call 67; (with_reducible refine (hR _).mono ?_); rintro e W_ ⟨rfl, hb_⟩; replace SS := Aside.mk (show Blk _ H _ _ ∧ Below H _ _ from ⟨SS.out.1.below hb_, SS.out.2.trans (hb_.mono (by have := SS.out.2.size; omega))⟩); clear hb_; have x0 := SS.out.1.cell 0 (.string lo) rfl; have x1 := SS.out.1.cell 1 (.string dm) rfl))
  go_ret2
  exact ⟨by rw [← HT.out]; rfl, SS.out.2⟩
set_option maxHeartbeats 8000000 in
theorem pathPrint_atoms (lo dm : ByteArray) (hr : Pt.right lo.data.toList dm.data.toList = 0) (hd : dm.toList.isEmpty = false) (ha : Pt.atoms lo.data.toList = true) (w : World) : Calls Tryz.prog 26 #[.agg #[.string lo, .string dm]] w fun e w' => e = .returned (.tuple #[.string (ptText lo dm), .int .i64 0]) ∧ Below w.heap.size w w' := by
  have hR := fun W => pathRight_any lo dm W
  rw [hr] at hR
  obtain ⟨k1, k2, _⟩ := Pt.right_cases hr
  have hl1 : lo.size ≤ 64 := by have : lo.data.toList.length = lo.size := by simp
                                omega
  have hl2 : dm.size ≤ 255 := by have : dm.data.toList.length = dm.size := by simp
                                 omega
  clear k1 k2 hr
  have o1 : ¬ 9223372036854775807 < 1 + lo.size := by omega
  have o2 : ¬ 9223372036854775807 < 1 + lo.size + 1 := by omega
  have o3 : ¬ 9223372036854775807 < 1 + lo.size + 1 + dm.size := by omega
  have o4 : ¬ 9223372036854775807 < 1 + lo.size + 1 + dm.size + 1 := by omega
  have HT := Aside.mk (text_dom lo dm lo hd (by unfold Pt.local_; rw [if_pos ha]))
  have hat := fun W => atoms_any lo (by omega) W
  rw [ha] at hat
  clear ha
  obtain ⟨H, hH⟩ : ∃ H, w.heap.size = H := ⟨_, rfl⟩
  have SS : Aside (Blk (w.alloc (.cells #[.string lo, .string dm] 23)) H #[.string lo, .string dm] 23 ∧ Below H w (w.alloc (.cells #[.string lo, .string dm] 23))) := ⟨hH ▸ Blk.new (w := w) #[.string lo, .string dm] 23, (Below.refl _ w).alloc (by omega) _⟩
  rw [hH]
  go_enter Tryz.func26, Tryz.ntmps26
  go_wp2_with (first | ((with_reducible refine at_dst (N := 9) rfl ?_); refine load_blk rfl 23 _ (by rfl) H (by rfl) #[.string lo, .string dm] 23 _ SS.out.1 Tryz.underlying23 rfl (by kernel_rfl) ?_) | (go_at_call 67; (with_reducible refine (hR _).mono ?_); rintro e W_ ⟨rfl, hb_⟩; replace SS := Aside.mk (show Blk _ H _ _ ∧ Below H _ _ from ⟨SS.out.1.below hb_, SS.out.2.trans (hb_.mono (by have := SS.out.2.size; omega))⟩); clear hb_; have x0 := SS.out.1.cell 0 (.string lo) rfl; have x1 := SS.out.1.cell 1 (.string dm) rfl) | (go_at_call 35; (with_reducible refine (hat _).mono ?_); rintro e W_ ⟨rfl, hb_⟩; replace SS := Aside.mk (show Blk _ H _ _ ∧ Below H _ _ from ⟨SS.out.1.below hb_, SS.out.2.trans (hb_.mono (by have := SS.out.2.size; omega))⟩); clear hb_; clear x0 x1; have x0 := SS.out.1.cell 0 (.string lo) rfl; have x1 := SS.out.1.cell 1 (.string dm) rfl))
  go_ret2
  exact ⟨by rw [← HT.out]; rfl, SS.out.2⟩
theorem n34 : (34 : Int) = ((34 : UInt8).toNat : Int) := rfl
theorem n92 : (92 : Int) = ((92 : UInt8).toNat : Int) := rfl
set_option maxHeartbeats 8000000 in
theorem pathPrint_quote (lo dm : ByteArray) (hr : Pt.right lo.data.toList dm.data.toList = 0) (hd : dm.toList.isEmpty = false) (ha : Pt.atoms lo.data.toList = false) (w : World) : Calls Tryz.prog 26 #[.agg #[.string lo, .string dm]] w fun e w' => e = .returned (.tuple #[.string (ptText lo dm), .int .i64 0]) ∧ Below w.heap.size w w' := by
  have hR := fun W => pathRight_any lo dm W
  rw [hr] at hR
  obtain ⟨k1, k2, _⟩ := Pt.right_cases hr
  have hl1 : lo.size ≤ 64 := by have : lo.data.toList.length = lo.size := by simp
                                omega
  have hl2 : dm.size ≤ 255 := by have : dm.data.toList.length = dm.size := by simp
                                 omega
  clear k1 k2 hr
  have hds : lo.data.toList.length = lo.size := by simp
  obtain ⟨tt, htt⟩ : ∃ t, (⟨(34 :: (Pt.esc lo.data.toList ++ [34])).toArray⟩ : ByteArray) = t := ⟨_, rfl⟩
  have hz : tt.size ≤ 200 := by
    rw [← htt]
    have := Pt.esc_len lo.data.toList
    simp [ByteArray.size]
    omega
  have o1 : ¬ 9223372036854775807 < 1 + tt.size := by omega
  have o2 : ¬ 9223372036854775807 < 1 + tt.size + 1 := by omega
  have o3 : ¬ 9223372036854775807 < 1 + tt.size + 1 + dm.size := by omega
  have o4 : ¬ 9223372036854775807 < 1 + tt.size + 1 + dm.size + 1 := by omega
  have HT := Aside.mk (text_dom lo dm tt hd (by unfold Pt.local_; rw [if_neg (by rw [ha]; decide), ← htt]))
  have HTT := Aside.mk htt
  have hat := fun W => atoms_any lo (by omega) W
  rw [ha] at hat
  have kb := fun W => Lib.run_convert_string_bytes (P := Tryz.prog) W 9 40 5 lo Tryz.underlying9 Tryz.underlying40 Tryz.underlying5
  clear ha htt hz
  obtain ⟨H, hH⟩ : ∃ H, w.heap.size = H := ⟨_, rfl⟩
  have SS : Aside (Blk (w.alloc (.cells #[.string lo, .string dm] 23)) H #[.string lo, .string dm] 23 ∧ Below H w (w.alloc (.cells #[.string lo, .string dm] 23))) := ⟨hH ▸ Blk.new (w := w) #[.string lo, .string dm] 23, (Below.refl _ w).alloc (by omega) _⟩
  rw [hH]
  go_enter Tryz.func26, Tryz.ntmps26
  go_wp2_with (first | ((with_reducible refine at_dst (N := 9) rfl ?_); refine load_blk rfl 23 _ (by rfl) H (by rfl) #[.string lo, .string dm] 23 _ SS.out.1 Tryz.underlying23 rfl (by kernel_rfl) ?_) | (go_at_call 67; (with_reducible refine (hR _).mono ?_); rintro e W_ ⟨rfl, hb_⟩; replace SS := Aside.mk (show Blk _ H _ _ ∧ Below H _ _ from ⟨SS.out.1.below hb_, SS.out.2.trans (hb_.mono (by have := SS.out.2.size; omega))⟩); clear hb_; have x0 := SS.out.1.cell 0 (.string lo) rfl; have x1 := SS.out.1.cell 1 (.string dm) rfl) | (go_at_call 35; (with_reducible refine (hat _).mono ?_); rintro e W_ ⟨rfl, hb_⟩; replace SS := Aside.mk (show Blk _ H _ _ ∧ Below H _ _ from ⟨SS.out.1.below hb_, SS.out.2.trans (hb_.mono (by have := SS.out.2.size; omega))⟩); clear hb_; clear x0 x1; have x0 := SS.out.1.cell 0 (.string lo) rfl; have x1 := SS.out.1.cell 1 (.string dm) rfl) | (go_at_call 68; (with_reducible refine (writeByte_n _ _ [] _ _ (Bd.new (Nat.lt_succ_self _) (Blk.new _ _)) (by decide) (by simp) _ n34).mono ?_); rintro e w2 ⟨rfl, hb, hch⟩; have HB := Aside.mk hb; have HC := Aside.mk hch; clear hb hch))
  obtain ⟨b, hbb⟩ : ∃ b, W_.heap.size = b := ⟨_, rfl⟩
  rw [hbb] at HB HC ⊢
  have hHb : H < b := by have := SS.out.1.lt; omega
  have Hq := Aside.mk hHb
  have HP : PrR lo dm H b w2.heap.size w [34] (Lib.bytesWorld w2 5 lo) := by
    have hz : w2.heap.size < (Lib.bytesWorld w2 5 lo).heap.size := by rw [Lib.bytesWorld_size]; omega
    have hbw : Below w2.heap.size w2 (Lib.bytesWorld w2 5 lo) := ⟨rfl, rfl, rfl, by omega, fun k hk => Lib.bytesWorld_at_old w2 _ lo k hk⟩
    have hbl := HB.out.blk
    have B1 : Blk (W_.alloc (.cells #[.pointer none, .slice none 0 0] 94)) H #[.string lo, .string dm] 23 := SS.out.1.old _
    have B2 : Blk w2 H #[.string lo, .string dm] 23 := B1.chg HC.out (by omega)
    have L2 : Below H w w2 := HC.out.below (SS.out.2.alloc (by have := SS.out.2.size; omega) _) (fun k hk => by omega) (by have := SS.out.2.size; simp; omega)
    have hs2 := HC.out.size
    simp at hs2
    exact ⟨Bd.bq HB.out hbw _ (Nat.le_refl _) hz, B2.below hbw, L2.trans (hbw.mono (by omega)), fun j hj => Lib.bytesWorld_cell w2 5 lo j hj, by omega, hHb⟩
  have PP := Aside.mk HP
  clear HP HB HC SS x0 x1 hHb hbb
  generalize Lib.bytesWorld w2 5 lo = W3 at PP ⊢
  go_loopw [30] (fun i wr => ∃ k : Nat, k ≤ lo.size ∧ i = .int .i64 k ∧ PrR lo dm H b w2.heap.size w (34 :: Pt.esc (lo.data.toList.take k)) wr) (fun i _ => lo.size - (intOf i).toNat)
  case atStart => exact ⟨0, by omega, rfl, PP.out⟩
  case round =>
    clear PP
    obtain ⟨k, hk, rfl, hr⟩ := hrel
    have R := Aside.mk hr
    clear hr
    have hle := Pt.esc_len (lo.data.toList.take k)
    have hle2 : (lo.data.toList.take k).length ≤ 64 := by rw [List.length_take]; omega
    obtain ⟨acc, hacc⟩ : ∃ a, 34 :: Pt.esc (lo.data.toList.take k) = a := ⟨_, rfl⟩
    have ha1 : acc.length ≤ 1000 := by rw [← hacc]; simp; omega
    rw [hacc] at R
    have HA := Aside.mk hacc
    have HL0 := Aside.mk (show acc.length ≤ 1000000000 by omega)
    have HL1 := Aside.mk (show (acc ++ [92]).length ≤ 1000000000 by simp; omega)
    have HL2 := Aside.mk (show (acc ++ [34]).length ≤ 1000000000 by simp; omega)
    clear hacc hle hle2 ha1
    by_cases hlt : k < lo.size
    · obtain ⟨c, hc⟩ : ∃ c, lo.data.toList.getD k 0 = c := ⟨_, rfl⟩
      have zc := R.out.row k hlt
      rw [hc] at zc
      have HE : Aside (34 :: Pt.esc (lo.data.toList.take (k + 1)) = acc ++ Pt.esc1 c) := ⟨by
        have hl : k < lo.data.toList.length := by omega
        rw [← HA.out, List.take_succ_eq_append_getElem hl, Pt.esc_snoc, ← hc, List.getD_eq_getElem?_getD, List.getElem?_eq_getElem hl]
        rfl⟩
      clear hc
      have hcr := c.toNat_lt
      by_cases c34 : c = 34
      · subst c34
        have HE2 : Aside (34 :: Pt.esc (lo.data.toList.take (k + 1)) = acc ++ [92] ++ [34]) := ⟨by rw [HE.out]; simp [Pt.esc1]⟩
        go_wp2_with (first | (go_at_call 68; (with_reducible refine (writeByteQ_n _ _ _ acc _ _ R.out.bld HL0.out R.out.sz _ n92).mono ?_); rintro e w5 ⟨rfl, hb, hch⟩; replace R := Aside.mk (R.out.wrote hb hch); clear hb hch) | (go_at_call 68; (with_reducible refine (writeByteQ _ _ _ (acc ++ [92]) 34 _ R.out.bld HL1.out R.out.sz).mono ?_); rintro e w5 ⟨rfl, hb, hch⟩; replace R := Aside.mk (R.out.wrote hb hch); clear hb hch) | (go_at_call 68; (with_reducible refine (writeByteQ_n _ _ _ (acc ++ [92]) _ _ R.out.bld HL1.out R.out.sz _ n34).mono ?_); rintro e w5 ⟨rfl, hb, hch⟩; replace R := Aside.mk (R.out.wrote hb hch); clear hb hch))
        go_roundw
        case rel => exact ⟨k + 1, by omega, by go_num, by rw [HE2.out]; exact R.out⟩
        case measure => first | (simp [intOf]; done) | (simp [intOf]; omega)
      · have b34 : ((c.toNat : Int) == 34) = false := u8_ne c34
        by_cases c92 : c = 92
        · subst c92
          have HE2 : Aside (34 :: Pt.esc (lo.data.toList.take (k + 1)) = acc ++ [92] ++ [92]) := ⟨by rw [HE.out]; simp [Pt.esc1]⟩
          go_wp2_with (first | (go_at_call 68; (with_reducible refine (writeByteQ_n _ _ _ acc _ _ R.out.bld HL0.out R.out.sz _ n92).mono ?_); rintro e w5 ⟨rfl, hb, hch⟩; replace R := Aside.mk (R.out.wrote hb hch); clear hb hch) | (go_at_call 68; (with_reducible refine (writeByteQ _ _ _ (acc ++ [92]) 92 _ R.out.bld HL1.out R.out.sz).mono ?_); rintro e w5 ⟨rfl, hb, hch⟩; replace R := Aside.mk (R.out.wrote hb hch); clear hb hch) | (go_at_call 68; (with_reducible refine (writeByteQ_n _ _ _ (acc ++ [92]) _ _ R.out.bld HL1.out R.out.sz _ n92).mono ?_); rintro e w5 ⟨rfl, hb, hch⟩; replace R := Aside.mk (R.out.wrote hb hch); clear hb hch))
          go_roundw
          case rel => exact ⟨k + 1, by omega, by go_num, by rw [HE2.out]; exact R.out⟩
          case measure => first | (simp [intOf]; done) | (simp [intOf]; omega)
        · have b92 : ((c.toNat : Int) == 92) = false := u8_ne c92
          have HE2 : Aside (34 :: Pt.esc (lo.data.toList.take (k + 1)) = acc ++ [c]) := ⟨by rw [HE.out]; simp [Pt.esc1, c34, c92]⟩
          clear c34 c92
          go_wp2_with ((go_at_call 68; (with_reducible refine (writeByteQ _ _ _ acc c _ R.out.bld HL0.out R.out.sz).mono ?_); rintro e w5 ⟨rfl, hb, hch⟩; replace R := Aside.mk (R.out.wrote hb hch); clear hb hch))
          go_roundw
          case rel => exact ⟨k + 1, by omega, by go_num, by rw [HE2.out]; exact R.out⟩
          case measure => first | (simp [intOf]; done) | (simp [intOf]; omega)
    · have hke : k = lo.size := by omega
      subst hke
      have HF : Aside ((⟨(acc ++ [34]).toArray⟩ : ByteArray) = tt) := ⟨by rw [← HTT.out, ← HA.out, List.take_of_length_le (by omega)]; rfl⟩
      have hst : ∀ W, PrR lo dm H b w2.heap.size w (acc ++ [34]) W → Calls Tryz.prog 69 #[.pointer (some ⟨b, 0, none⟩)] W fun e w' => e = .returned (.string tt) ∧ Below b W w' := fun W h => by
        have := string_any b b (b + 1) (acc ++ [34]) W h.bld.bd (Nat.le_refl _)
        rw [HF.out] at this
        exact this
      go_wp2_with (first | (go_at_call 68; (with_reducible refine (writeByteQ_n _ _ _ acc _ _ R.out.bld HL0.out R.out.sz _ n34).mono ?_); rintro e w5 ⟨rfl, hb, hch⟩; replace R := Aside.mk (R.out.wrote hb hch); clear hb hch) | (go_at_call 69; (with_reducible refine (hst _ R.out).mono ?_); rintro e w4 ⟨rfl, hb4⟩; have B4 := Aside.mk ((hb4.block H Hq.out).trans R.out.blk : Blk w4 H #[.string lo, .string dm] 23); have L4 := Aside.mk (R.out.low.trans (hb4.mono (Nat.le_of_lt Hq.out))); clear hb4; have x1 := Blk.cell B4.out 1 (.string dm) rfl))
      go_ret2
      exact ⟨by rw [← HT.out]; rfl, L4.out⟩
theorem pathPrint_any (lo dm : ByteArray) (w : World) : Calls Tryz.prog 26 #[.agg #[.string lo, .string dm]] w fun e w' => e = .returned (.tuple #[.string (if Pt.right lo.data.toList dm.data.toList = 0 then ptText lo dm else ⟨#[]⟩), .int .i64 (Pt.right lo.data.toList dm.data.toList)]) ∧ Below w.heap.size w w' := by
  by_cases hr : Pt.right lo.data.toList dm.data.toList = 0
  · rw [if_pos hr, hr]
    cases hd : dm.toList.isEmpty with
    | true => exact pathPrint_null lo dm hr hd w
    | false =>
      cases ha : Pt.atoms lo.data.toList with
      | true => exact pathPrint_atoms lo dm hr hd ha w
      | false => exact pathPrint_quote lo dm hr hd ha w
  · rw [if_neg hr]
    exact pathPrint_bad lo dm _ rfl hr w
end Go.Proofs.YtllhbcpbihhdnaaGreatDoor
end
section
set_option linter.unusedVariables false
set_option linter.unusedSimpArgs false
namespace Go.Proofs.YtllhbcpbihhdnaaGreatDoor
open Go.RowKit Go.Shelf
set_option maxRecDepth 100000
theorem idxR_invalid (r : Int) (h : 128 ≤ r) (hv : Lib.validRune r = false) (hne : r ≠ 65533) (w : World) : Calls Tryz.prog 81 #[.string ⟨#[64, 62]⟩, .int .i32 r] w fun e w' => e = .returned (.int .i64 (-1)) ∧ Below w.heap.size w w' := by
  have d1 : decide ((0 : Int) ≤ r) = true := decide_eq_true (by omega)
  have d2 : decide (r < 128) = false := decide_eq_false (by omega)
  have d3 : (r == 65533) = false := by simpa using hne
  have hval := fun W => Tryz.utf8_ValidRune r W
  rw [hv] at hval
  clear h hne hv
  go_enter Tryz.func81, Tryz.ntmps81
  go_wp2_with (go_at_call 109; (with_reducible refine (hval _).mono ?_); rintro e w_ ⟨rfl, hw_⟩; have hw2_ := hw_.symm; subst hw2_; clear hw_)
  go_ret
  exact ⟨rfl, Below.refl _ _⟩
theorem idxR_error (w : World) : Calls Tryz.prog 81 #[.string ⟨#[64, 62]⟩, .int .i32 65533] w fun e w' => e = .returned (.int .i64 (-1)) ∧ Below w.heap.size w w' := by
  go_enter Tryz.func81, Tryz.ntmps81
  go_wp2
  go_loopg [5, 6] 2 (fun g _ _ wx => ∃ i : Nat, i + g = 2 ∧ wx = w.iter ⟨#[64, 62]⟩ i)
  case atStart => exact ⟨0, by omega, rfl⟩
  case round =>
    obtain ⟨i, hig, rfl⟩ := hrel
    match gk, i, hig with
    | 0, 2, _ =>
      have hnx := fun ty => run_next_end (P := Tryz.prog) w ⟨#[64, 62]⟩ 2 ty (by decide)
      go_wp2
      go_ret
      exact ⟨rfl, (Below.refl _ w).alloc (Nat.le_refl _) _⟩
    | 1, 1, _ =>
      have hnx := fun ty => run_next_ascii (P := Tryz.prog) w ⟨#[64, 62]⟩ 1 ty (by decide) (by decide)
      go_wp2
      go_roundg 0
      case measure => omega
      case rel => exact ⟨2, by omega, rfl⟩
    | 2, 0, _ =>
      have hnx := fun ty => run_next_ascii (P := Tryz.prog) w ⟨#[64, 62]⟩ 0 ty (by decide) (by decide)
      go_wp2
      go_roundg 1
      case measure => omega
      case rel => exact ⟨1, by omega, rfl⟩
theorem idx_empty (x : UInt8) (W : World) : Calls Tryz.prog 86 #[.string ((⟨#[64, 62]⟩ : ByteArray).extract 2 2), .int .u8 (x.toNat : Int)] W fun e w' => e = .returned (.int .i64 (-1)) ∧ w' = W :=
  (Tryz.strings_IndexByte _ (x.toNat : Int) W).mono fun _ _ ⟨h1, h2⟩ => ⟨h1, h2⟩
set_option maxHeartbeats 8000000 in
theorem idxR_valid (r : Int) (h : 128 ≤ r) (hv : Lib.validRune r = true) (hne : r ≠ 65533) (w : World) : Calls Tryz.prog 81 #[.string ⟨#[64, 62]⟩, .int .i32 r] w fun e w' => e = .returned (.int .i64 (-1)) ∧ Below w.heap.size w w' := by
  have d1 : decide ((0 : Int) ≤ r) = true := decide_eq_true (by omega)
  have d2 : decide (r < 128) = false := decide_eq_false (by omega)
  have d3 : (r == 65533) = false := by simpa using hne
  have hval := fun W => Tryz.utf8_ValidRune r W
  rw [hv] at hval
  have hen := encode_facts r (by rw [validRune_eq]; exact hv) h
  have kc := fun W => run_convert_int_string (P := Tryz.prog) W 21 9 .i32 r (by kernel_rfl) Tryz.underlying9
  obtain ⟨t, ht⟩ : ∃ t, Utf8.encode r = t := ⟨_, rfl⟩
  rw [ht] at hen kc
  clear h hv hne ht
  obtain ⟨h2, h4, hlast⟩ := hen
  have h3 : t.size = 2 ∨ t.size = 3 ∨ t.size = 4 := by omega
  rcases h3 with hn | hn | hn
  · have hx := hlast (by omega)
    obtain ⟨x, hxe⟩ : ∃ x, t[1]'(by omega) = x := ⟨_, rfl⟩
    have hx2 : 128 ≤ x.toNat := by
      have e : t.size - 1 = 1 := by omega
      simp only [e] at hx
      rw [← hxe]
      exact hx
    have dx : ((62 : Int) != (x.toNat : Int)) = true := by simp; omega
    have dx2 : ((((⟨#[64, 62]⟩ : ByteArray)[1]'(by decide)).toNat : Int) != (x.toNat : Int)) = true := dx
    have wr2 : IntKind.i64.wrap 2 = 2 := IntWalk.i64_in _ (by omega)
    clear hx hlast hx2 h2 h4
    go_enter Tryz.func81, Tryz.ntmps81
    go_wp2_with (first | (go_at_call 109; (with_reducible refine (hval _).mono ?_); rintro e w_ ⟨rfl, hw_⟩; have hw2_ := hw_.symm; subst hw2_; clear hw_) | (go_at_call 86; (with_reducible refine (hix _).mono ?_); rintro e w_ ⟨rfl, hw_⟩; have hw2_ := hw_.symm; subst hw2_; clear hw_))
    go_step3
    go_wp2
    refine wp_loop_rounds 1 ?_
    rw [rounds_succ]
    go_wp2
    go_step3
    go_wp2
    refine region_class (C := (fun w' => Below w.heap.size w w')) (by kernel_rfl) (by kernel_rfl) (pw_below_drewN (Below.refl _ _) 1) ?_
    refine q_run ?_ ?_ ?_ ?_
    · kernel_rfl
    rotate_left
    · intro w_ hw_
      skip
      first | (go_simp; done) | (go_simp; with_reducible rfl) | (go_simp; rw [if_neg (by first | omega | (simp; omega))])
    try simp only [Act.put, List.setIfInBounds_toArray, List.set_cons_zero, List.set_cons_succ]
    try simp only [dx2]
    refine q_run ?_ ?_ ?_ ?_
    · kernel_rfl
    rotate_left
    · intro w_ hw_
      skip
      first | (go_simp; done) | (go_simp; with_reducible rfl) | (go_simp; rw [if_neg (by first | omega | (simp; omega))])
    try simp only [Act.put, List.setIfInBounds_toArray, List.set_cons_zero, List.set_cons_succ]
    try simp only [dx2]
    refine q_run ?_ ?_ ?_ ?_
    · kernel_rfl
    rotate_left
    · intro w_ hw_
      skip
      first | (go_simp; done) | (go_simp; with_reducible rfl) | (go_simp; rw [if_neg (by first | omega | (simp; omega))])
    try simp only [Act.put, List.setIfInBounds_toArray, List.set_cons_zero, List.set_cons_succ]
    try simp only [dx2]
    refine q_run ?_ ?_ ?_ ?_
    · kernel_rfl
    rotate_left
    · intro w_ hw_
      skip
      first | (go_simp; done) | (go_simp; with_reducible rfl) | (go_simp; rw [if_neg (by first | omega | (simp; omega))])
    try simp only [Act.put, List.setIfInBounds_toArray, List.set_cons_zero, List.set_cons_succ]
    try simp only [dx2]
    refine q_run ?_ ?_ ?_ ?_
    · kernel_rfl
    rotate_left
    · intro w_ hw_
      skip
      first | (go_simp; done) | (go_simp; with_reducible rfl) | (go_simp; rw [if_neg (by first | omega | (simp; omega))])
    try simp only [Act.put, List.setIfInBounds_toArray, List.set_cons_zero, List.set_cons_succ]
    try simp only [dx2]
    refine q_run ?_ ?_ ?_ ?_
    · kernel_rfl
    rotate_left
    · intro w_ hw_
      skip
      first | (go_simp; done) | (go_simp; with_reducible rfl) | (go_simp; rw [if_neg (by first | omega | (simp; omega))])
    try simp only [Act.put, List.setIfInBounds_toArray, List.set_cons_zero, List.set_cons_succ]
    try simp only [dx2]
    refine q_run ?_ ?_ ?_ ?_
    · kernel_rfl
    rotate_left
    · intro w_ hw_
      skip
      first | (go_simp; done) | (go_simp; with_reducible rfl) | (go_simp; rw [if_neg (by first | omega | (simp; omega))])
    try simp only [Act.put, List.setIfInBounds_toArray, List.set_cons_zero, List.set_cons_succ]
    try simp only [dx2]
    refine q_nil ?_
    intro W_ hC_
    go_wp2
    have hB := Aside.mk hC_
    clear hC_
    replace hB := hB.out
    go_wp2
    refine region_class (C := (fun w' => Below w.heap.size w w')) (by kernel_rfl) (by kernel_rfl) (pw_below_drewN hB 1) ?_
    refine q_run ?_ ?_ ?_ ?_
    · kernel_rfl
    rotate_left
    · intro w_ hw_
      skip
      first | (go_simp; done) | (go_simp; with_reducible rfl) | (go_simp; rw [if_neg (by first | omega | (simp; omega))])
    try simp only [Act.put, List.setIfInBounds_toArray, List.set_cons_zero, List.set_cons_succ]
    refine q_run ?_ ?_ ?_ ?_
    · kernel_rfl
    rotate_left
    · intro w_ hw_
      skip
      first | (go_simp; done) | (go_simp; with_reducible rfl) | (go_simp; rw [if_neg (by first | omega | (simp; omega))])
    try simp only [Act.put, List.setIfInBounds_toArray, List.set_cons_zero, List.set_cons_succ]
    refine q_run ?_ ?_ ?_ ?_
    · kernel_rfl
    rotate_left
    · intro w_ hw_
      skip
      first | (go_simp; done) | (go_simp; with_reducible rfl) | (go_simp; rw [if_neg (by first | omega | (simp; omega))])
    try simp only [Act.put, List.setIfInBounds_toArray, List.set_cons_zero, List.set_cons_succ]
    refine q_run ?_ ?_ ?_ ?_
    · kernel_rfl
    rotate_left
    · intro w_ hw_
      skip
      first | (go_simp; done) | (go_simp; with_reducible rfl) | (go_simp; rw [if_neg (by first | omega | (simp; omega))])
    try simp only [Act.put, List.setIfInBounds_toArray, List.set_cons_zero, List.set_cons_succ]
    refine q_run ?_ ?_ ?_ ?_
    · kernel_rfl
    rotate_left
    · intro w_ hw_
      skip
      first | (go_simp; done) | (go_simp; with_reducible rfl) | (go_simp; rw [if_neg (by first | omega | (simp; omega))])
    try simp only [Act.put, List.setIfInBounds_toArray, List.set_cons_zero, List.set_cons_succ]
    refine q_run ?_ ?_ ?_ ?_
    · kernel_rfl
    rotate_left
    · intro w_ hw_
      skip
      first | (go_simp; done) | (go_simp; with_reducible rfl) | (go_simp; rw [if_neg (by first | omega | (simp; omega))])
    try simp only [Act.put, List.setIfInBounds_toArray, List.set_cons_zero, List.set_cons_succ]
    refine q_run ?_ ?_ ?_ ?_
    · kernel_rfl
    rotate_left
    · intro w_ hw_
      skip
      first | (go_simp; done) | (go_simp; with_reducible rfl) | (go_simp; rw [if_neg (by first | omega | (simp; omega))])
    try simp only [Act.put, List.setIfInBounds_toArray, List.set_cons_zero, List.set_cons_succ]
    refine q_call ?_ (.int .i64 (-1)) ?_ ?_ ?_ ?_ ?_
    · kernel_rfl
    rotate_left 2
    · intro w_ hw_
      go_simp
      refine ⟨?_, ?_⟩ <;> with_reducible rfl
    · intro w_ hw_
      skip
      exact (idx_empty x w_).mono fun _ _ ⟨h1_, h2_⟩ => ⟨h1_, by rw [h2_]; exact hw_⟩
    try simp only [Act.put, List.setIfInBounds_toArray, List.set_cons_zero, List.set_cons_succ]
    refine q_run ?_ ?_ ?_ ?_
    · kernel_rfl
    rotate_left
    · intro w_ hw_
      skip
      first | (go_simp; done) | (go_simp; with_reducible rfl) | (go_simp; rw [if_neg (by first | omega | (simp; omega))])
    try simp only [Act.put, List.setIfInBounds_toArray, List.set_cons_zero, List.set_cons_succ]
    refine q_nil ?_
    intro W_ hC_
    go_wp2
    simp only [Exit.inBlock, Exit.then, Exit.noGoto_ret]
    go_ret
    exact ⟨rfl, hC_⟩
  · clear hlast h2 h4
    go_enter Tryz.func81, Tryz.ntmps81
    go_wp2_with (go_at_call 109; (with_reducible refine (hval _).mono ?_); rintro e w_ ⟨rfl, hw_⟩; have hw2_ := hw_.symm; subst hw2_; clear hw_)
    go_step3
    go_wp2
    refine wp_loop_rounds 1 ?_
    rw [rounds_succ]
    go_wp2
    rw [Exit.noGoto_ret]
    go_ret
    exact ⟨rfl, Below.refl _ _⟩
  · clear hlast h2 h4
    go_enter Tryz.func81, Tryz.ntmps81
    go_wp2_with (go_at_call 109; (with_reducible refine (hval _).mono ?_); rintro e w_ ⟨rfl, hw_⟩; have hw2_ := hw_.symm; subst hw2_; clear hw_)
    go_step3
    go_wp2
    refine wp_loop_rounds 1 ?_
    rw [rounds_succ]
    go_wp2
    rw [Exit.noGoto_ret]
    go_ret
    exact ⟨rfl, Below.refl _ _⟩
theorem idxR_high (r : Int) (h : 128 ≤ r) (w : World) : Calls Tryz.prog 81 #[.string ⟨#[64, 62]⟩, .int .i32 r] w fun e w' => e = .returned (.int .i64 (-1)) ∧ Below w.heap.size w w' := by
  by_cases hne : r = 65533
  · subst hne; exact idxR_error w
  · cases hv : Lib.validRune r with
    | true => exact idxR_valid r h hv hne w
    | false => exact idxR_invalid r h hv hne w
end Go.Proofs.YtllhbcpbihhdnaaGreatDoor
end
section
set_option linter.unusedVariables false
set_option linter.unusedSimpArgs false
namespace Go.Proofs.YtllhbcpbihhdnaaGreatDoor
open Go.RowKit Go.Shelf
set_option maxRecDepth 100000
/-- A rune of more than one byte has none below 128. -/
theorem decode_cont (s : ByteArray) (pos : Nat) (h : pos < s.size) (ha : 128 ≤ (s[pos]'h).toNat) : pos + (Utf8.decode s pos).2 ≤ s.size ∧ ∀ j, j < (Utf8.decode s pos).2 → 128 ≤ (s.get! (pos + j)).toNat := by
  have hn : ¬ (s[pos]'h).toNat < 128 := by omega
  have h0 : 128 ≤ (s.get! pos).toNat := by have := get_at s pos h; rw [Nat.add_zero] at this; rw [this]; exact ha
  simp only [Utf8.decode, get_at s pos h, hn, if_false]
  have four : ∀ (P : Nat → Prop) (n : Nat), n ≤ 4 → (0 < n → P 0) → (1 < n → P 1) → (2 < n → P 2) → (3 < n → P 3) → ∀ j, j < n → P j := fun P n hn p0 p1 p2 p3 j hj => by
    have : j = 0 ∨ j = 1 ∨ j = 2 ∨ j = 3 := by omega
    rcases this with rfl | rfl | rfl | rfl
    · exact p0 hj
    · exact p1 hj
    · exact p2 hj
    · exact p3 hj
  repeat' split
  all_goals
    first
      | exact ⟨by simp only; omega, four _ 1 (by omega) (fun _ => h0) (fun q => absurd q (by omega)) (fun q => absurd q (by omega)) (fun q => absurd q (by omega))⟩
      | (simp only [Bool.and_eq_true, decide_eq_true_eq, beq_iff_eq] at *
         refine ⟨by omega, four _ _ (by omega) (fun _ => h0) (fun _ => by omega) (fun q => by omega) (fun q => by omega)⟩)
structure IxS (s : ByteArray) (w : World) (i : Nat) (W : World) : Prop where
  it : W.heap[w.heap.size]? = some (.stringIter s i)
  low : Below w.heap.size w W
theorem IxS.step {s : ByteArray} {w : World} {i : Nat} {W : World} (h : IxS s w i W) (i' : Nat) : IxS s w i' (W.iterAt w.heap.size s i') := ⟨Lib.iterAt_heap W _ s i i' h.it, Lib.below_iterAt h.low (Nat.le_refl _) s i'⟩
theorem IxS.next {s : ByteArray} {w : World} {i : Nat} {W W' : World} (h : IxS s w i W) (hb : Below W.heap.size W W') : IxS s w i W' :=
  ⟨(hb.block _ (lt_of_block h.it)).trans h.it, h.low.trans (hb.mono h.low.size)⟩
theorem noAny_jump {s : ByteArray} {i n : Nat} (h : Lib.NoAny s.data.toList [64, 62] i) (hn : i + n ≤ s.size) (hc : ∀ j, j < n → 128 ≤ (s.get! (i + j)).toNat) : Lib.NoAny s.data.toList [64, 62] (i + n) := by
  intro j b hj hb
  rcases Nat.lt_or_ge j i with q | q
  · exact h j b q hb
  · have hk := hc (j - i) (by omega)
    have e : i + (j - i) = j := by omega
    rw [e] at hk
    have hjs : j < s.size := by omega
    have hb2 := Lib.data_getElem? s j hjs
    rw [hb2] at hb
    have hb3 : s[j] = b := Option.some.inj hb
    have hg := get_at s j hjs
    rw [Nat.add_zero] at hg
    rw [hg, hb3] at hk
    simp only [List.contains_cons, List.contains_nil, Bool.or_false, Bool.or_eq_false_iff, beq_eq_false_iff_ne, ne_eq]
    constructor
    · rintro rfl; exact absurd hk (by decide)
    · rintro rfl; exact absurd hk (by decide)
set_option maxHeartbeats 8000000 in
theorem idxA_short (s : ByteArray) (h8 : s.size ≤ 8) (w : World) : Calls Tryz.prog 34 #[.string s, .string ⟨#[64, 62]⟩] w fun e w' => e = .returned (.int .i64 (Lib.indexAny s.data.toList [64, 62])) ∧ Below w.heap.size w w' := by
  have h8z : decide ((8 : Int) < (s.size : Int)) = false := decide_eq_false (by omega)
  have hsh := fun W => Tryz.strings_shouldUseASCIISet (s.size : Int) W
  rw [h8z] at hsh
  go_enter Tryz.func34, Tryz.ntmps34
  go_wp2_with (go_at_call 82; (with_reducible refine (hsh _).mono ?_); rintro e w_ ⟨rfl, hw_⟩; have hw2_ := hw_.symm; subst hw2_; clear hw_)
  have HS : IxS s w 0 (w.iter s 0) := ⟨by simp [World.iter_heap], (Below.refl _ w).alloc (Nat.le_refl _) _⟩
  go_loopg [9, 10] s.size (fun g _ _ wx => ∃ i : Nat, i + g = s.size ∧ Lib.NoAny s.data.toList [64, 62] i ∧ IxS s w i wx)
  case atStart => exact ⟨0, by omega, Lib.NoAny.zero _ _, HS⟩
  case round =>
    clear HS
    obtain ⟨i, hig, hno, hS⟩ := hrel
    have HN := Aside.mk hno
    have SI := Aside.mk hS
    clear hno hS
    cases gk with
    | zero =>
      have hie : i = s.size := by omega
      have hnx := fun ty => Lib.run_next_end_at (P := Tryz.prog) wr w.heap.size s i ty SI.out.it (by omega)
      go_wp2
      go_ret
      exact ⟨by rw [Lib.indexAny_none (by rw [← Lib.size_eq, ← hie]; exact HN.out)]; rfl, SI.out.low⟩
    | succ g =>
      have hi : i < s.size := by omega
      obtain ⟨x, hx⟩ : ∃ x : UInt8, s[i]'hi = x := ⟨_, rfl⟩
      have hxl : s.data.toList[i]? = some x := by rw [← hx]; exact Lib.data_getElem? s i hi
      by_cases hx128 : x.toNat < 128
      · have hnx := fun ty => Lib.run_next_ascii_at (P := Tryz.prog) wr w.heap.size s i ty SI.out.it hi (by rw [hx]; exact hx128)
        rw [hx] at hnx
        have Hx := Aside.mk hxl
        clear hxl hx
        have hcon := Lib.contains_iff_indexByte [64, 62] x
        have hback : ((x.toNat : Int)).toNat.toUInt8 = x := by simp
        have hir := fun W => Tryz.strings_IndexRune_ascii ⟨#[64, 62]⟩ (x.toNat : Int) W (by omega) (by omega)
        rw [hback, show (⟨#[64, 62]⟩ : ByteArray).data.toList = [64, 62] from rfl] at hir
        cases hin : ([64, 62] : List UInt8).contains x
        · rw [hin] at hcon
          have hlt : ¬ ((0 : Int) ≤ Lib.indexByte [64, 62] x) := of_decide_eq_false hcon.symm
          have HI := Aside.mk hin
          clear hcon hin
          generalize Lib.indexByte [64, 62] x = ix at hir hlt
          go_wp2_with (go_at_call 81; (with_reducible refine (hir _).mono ?_); rintro e w_ ⟨rfl, hw_⟩; have hw2_ := hw_.symm; subst hw2_; clear hw_)
          go_roundg g
          case measure => omega
          case rel => exact ⟨i + 1, by omega, HN.out.succ Hx.out HI.out, SI.out.step _⟩
        · rw [hin] at hcon
          have hge : (0 : Int) ≤ Lib.indexByte [64, 62] x := of_decide_eq_true hcon.symm
          have HI := Aside.mk hin
          clear hcon hin
          generalize Lib.indexByte [64, 62] x = ix at hir hge
          go_wp2_with (go_at_call 81; (with_reducible refine (hir _).mono ?_); rintro e w_ ⟨rfl, hw_⟩; have hw2_ := hw_.symm; subst hw2_; clear hw_)
          go_ret
          exact ⟨by rw [Lib.indexAny_hit HN.out Hx.out HI.out]; rfl, (SI.out.step (i + 1)).low⟩
      · have hnx := fun ty => Lib.run_next_any_at (P := Tryz.prog) wr w.heap.size s i ty SI.out.it hi
        have hd := decode_high s i hi (by rw [hx]; omega)
        obtain ⟨hc1, hc2⟩ := decode_cont s i hi (by rw [hx]; omega)
        generalize (Utf8.decode s i).1 = r at hnx hd
        generalize (Utf8.decode s i).2 = n at hnx hd hc1 hc2
        have HJ := Aside.mk (noAny_jump HN.out hc1 hc2)
        have hir := fun W => idxR_high (r : Int) (by omega) W
        clear hx hxl hc2
        go_wp2_with (go_at_call 81; (with_reducible refine (hir _).mono ?_); rintro e w_ ⟨rfl, hb_⟩; have S2 := Aside.mk ((SI.out.step (i + n)).next hb_); clear hb_)
        go_roundg (s.size - (i + n))
        case measure => omega
        case rel => exact ⟨i + n, by omega, HJ.out, S2.out⟩
theorem idxA_any (s : ByteArray) (hs : s.size < 4294967281) (w : World) : Calls Tryz.prog 34 #[.string s, .string ⟨#[64, 62]⟩] w fun e w' => e = .returned (.int .i64 (Lib.indexAny s.data.toList [64, 62])) ∧ Below w.heap.size w w' := by
  by_cases h8 : s.size ≤ 8
  · exact idxA_short s h8 w
  · have h116 : (Tryz.prog.info? 84).map (fun i => (i.zero, i.size)) = some (some (.agg (Array.replicate 256 (.bool false))), 256) := by kernel_rfl
    refine (Tryz.strings_IndexAny_long (zero_of_info h116).1 s ⟨#[64, 62]⟩ w (by decide) (by omega) hs (by decide) ?_).mono fun e w' ⟨h1, h2⟩ => ⟨h1, ?_⟩
    · intro j b hb
      have : b ∈ ([64, 62] : List UInt8) := List.mem_of_getElem? (l := [64, 62]) hb
      simp at this
      rcases this with rfl | rfl <;> decide
    · rw [h2]
      exact ((Below.refl _ _).alloc (Nat.le_refl _) _).alloc (by simp) _
end Go.Proofs.YtllhbcpbihhdnaaGreatDoor
end
section
set_option linter.unusedVariables false
set_option linter.unusedSimpArgs false
namespace Go.Proofs.YtllhbcpbihhdnaaGreatDoor
open Go.RowKit Go.Shelf
set_option maxRecDepth 100000
/-- Three results, the first in a block. -/
theorem results_blk3 {P : Program} {fn : Func} {x t u : Tmp} {T : TypeId} (h : fn.results = #[.cell x T, .tmp t, .tmp u]) (tmps : Array Value) (w : World) (b : Nat) (hx : tmps.getD x undef = .pointer (some ⟨b, 0, none⟩)) (cs : Array Value) (t' : TypeId) (d : TypeDesc) (hb : Blk w b cs t') (hu : P.underlying T = some d) (hd : d.isRow = true) (hi : (P.info? T).map (·.size) = some cs.size) :
    (results fn tmps).run P w = .ok (.tuple #[.agg cs, tmps.getD t undef, tmps.getD u undef]) w := by
  have hl := run_loadVar_mid (P := P) w b 0 T cs.toList d (blk_range hb) hu hd (by simpa using hi)
  have hx' : tmps[x]?.getD undef = .pointer (some ⟨b, 0, none⟩) := by simpa using hx
  simp [results, h, hx', asAddr, hl]
theorem none_any (w : World) : Calls Tryz.prog 30 #[] w fun e w' => e = .returned (.tuple #[.agg #[.string ⟨#[]⟩, .string ⟨#[]⟩], .string ⟨#[]⟩, .int .i64 2]) ∧ Below w.heap.size w w' := by
  obtain ⟨H, hH⟩ : ∃ H, w.heap.size = H := ⟨_, rfl⟩
  go_enter Tryz.func30, Tryz.ntmps30
  go_wp2_with (first | ((with_reducible refine at_store (p := 0) rfl ?_); refine store_new rfl 23 _ _ #[.string ⟨#[]⟩, .string ⟨#[]⟩] #[.string ⟨#[]⟩, .string ⟨#[]⟩] (by rfl) w.heap.size rfl (by rfl) (by rfl) (by kernel_rfl) rfl (by kernel_rfl) ?_))
  refine bodyPost_ret (results_blk3 (by rfl) _ _ H (by rfl) #[.string ⟨#[]⟩, .string ⟨#[]⟩] 23 _ (hH ▸ Blk.new (w := w) #[.string ⟨#[]⟩, .string ⟨#[]⟩] 23) Tryz.underlying23 rfl (by kernel_rfl)) rfl ⟨rfl, ?_⟩
  exact (Below.refl _ w).alloc (Nat.le_refl _) _
theorem atoms_ascii (s : ByteArray) (h : Pt.atoms s.data.toList = true) : ∀ (j : Nat) (b : UInt8), s.data.toList[j]? = some b → b.toNat < 128 := by
  intro j b hb
  rcases Pt.atoms_bytes h b (List.mem_of_getElem? hb) with rfl | k
  · decide
  · have := (Pt.atomB_not b k).2.2.2.2
    omega
theorem pre_one {l : List UInt8} {b : UInt8} : Lib.hasPrefix l [b] = true ↔ ∃ r, l = b :: r := by
  cases l with
  | nil => simp [Lib.hasPrefix]
  | cons x r => simp [Lib.hasPrefix]; exact eq_comm
theorem trim_one (b : UInt8) (r : List UInt8) : Lib.trimPrefix (b :: r) [b] = r := by simp [Lib.trimPrefix, Lib.hasPrefix]
end Go.Proofs.YtllhbcpbihhdnaaGreatDoor
end
section
set_option linter.unusedVariables false
set_option linter.unusedSimpArgs false
namespace Go.Proofs.YtllhbcpbihhdnaaGreatDoor
open Go.RowKit
set_option maxRecDepth 100000
section
variable {ops : Array Oper} {rest : List Oper} {o : Oper} {a : Act} {w : World} {Q : Exit → Act → World → Prop}
theorem parts_strs (a : Act) (parts : Array (Nat × Operand)) (ss : List ByteArray) (hparts : parts.toList = (ss.zipIdx 0).map fun x => (x.2, Operand.const (Value.string x.1))) :
    (parts.map fun (i, x) => (i, a.eval x)).toList = ((ss.map Value.string).zipIdx 0).map fun x => (x.2, x.1) := by
  rw [Array.toList_map, hparts, List.zipIdx_map, List.map_map, List.map_map]
  rfl
theorem strInfoS : (∃ i, Tryz.prog.info? 9 = some i ∧ i.zero = some (.string ByteArray.empty) ∧ i.size = 1) := by
  have : (Tryz.prog.info? 9).map (fun i => (i.zero, i.size)) = some (some (.string ByteArray.empty), 1) := by kernel_rfl
  cases h : Tryz.prog.info? 9 with
  | none => rw [h] at this; cases this
  | some i =>
    rw [h] at this
    simp only [Option.map_some, Option.some.injEq, Prod.mk.injEq] at this
    exact ⟨i, rfl, this.1, this.2⟩
theorem strs_lit (hw : Region.wanted o (yielded ops a.tmps) = true) (n : Nat) (parts : Array (Nat × Operand)) (ho : o.op = .buildSlice 50 n parts) (ss : List ByteArray) (hlen : n = ss.length) (hpos : 0 < n) (hsmall : n ≤ 1000)
    (hparts : parts.toList = (ss.zipIdx 0).map fun x => (x.2, Operand.const (Value.string x.1))) (cs : Array Value) (hcs : (ss.map Value.string).toArray = cs) (N : Nat) (hN : w.heap.size = N)
    (h : wpList Tryz.prog ops Q rest (a.put o.dst (.slice (some ⟨N, 0, none⟩) n n)) (w.alloc (.cells cs 9))) : wpList Tryz.prog ops Q (o :: rest) a w := by
  subst hcs hN
  obtain ⟨i, hi, hz, hsz⟩ := strInfoS
  refine wpList_step fun K hK => ?_
  rw [if_pos hw]
  refine wp_buildSlice 50 9 n parts ho _ i _ Tryz.underlying50 hi hz (by rw [hsz]; omega) (by rw [hsz]; omega) ?_ (hK _ _ h)
  rw [parts_strs a parts ss hparts, hsz]
  exact Great.fill_flat _ _ (fun v hv => by obtain ⟨s, _, rfl⟩ := List.mem_map.1 hv; rfl) (by simp [hlen])
end
end Go.Proofs.YtllhbcpbihhdnaaGreatDoor
end
section
set_option linter.unusedVariables false
set_option linter.unusedSimpArgs false
namespace Go.Proofs.YtllhbcpbihhdnaaGreatDoor
open Go.RowKit
set_option maxRecDepth 100000
/-- Two values of a type compare as b, in any world. -/
structure Cmp (P : Program) (d : Nat) (t : TypeId) (x y : Value) (b : Bool) : Prop where
  mk :: (out : ∀ w, (Op.equalIn d t x y).run P w = .ok b w)
section
variable {P : Program} {d : Nat}
theorem cmp_int {t : TypeId} {k k' : IntKind} (h : P.underlying t = some (.int k')) (a b : Int) : Cmp P (d + 1) t (.int k a) (.int k b) (a == b) := ⟨fun w => run_equalIn_int w d t k k' a b h⟩
theorem cmp_bool {t : TypeId} (h : P.underlying t = some .bool) (a b : Bool) : Cmp P (d + 1) t (.bool a) (.bool b) (a == b) := ⟨fun w => run_equalIn_bool' w d t a b h⟩
theorem cmp_str {t : TypeId} (h : P.underlying t = some .string) (a b : ByteArray) : Cmp P (d + 1) t (.string a) (.string b) (a.toList == b.toList) := ⟨fun w => run_equalIn_string w d t a b h⟩
/-- The fields of a struct compare as bs. -/
structure CmpF (P : Program) (d : Nat) (xs ys : Array Value) (fs : List Field) (b : Bool) : Prop where
  mk :: (out : ∀ w, (Op.eqFields d xs ys fs).run P w = .ok b w)
theorem cmpF_nil (xs ys : Array Value) : CmpF P d xs ys [] true := ⟨fun w => rfl⟩
theorem cmpF_cons {xs ys : Array Value} {f : Field} {fs : List Field} (hn : f.name ≠ "_") (x y : Value) (hx : ∀ w, (part f.type xs f.offset).run P w = .ok x w) (hy : ∀ w, (part f.type ys f.offset).run P w = .ok y w) {b c : Bool} (h : Cmp P d f.type x y b) (hr : CmpF P d xs ys fs c) : CmpF P d xs ys (f :: fs) (b && c) := ⟨fun w => by
  rw [Op.eqFields, if_pos hn]
  simp only [Sem.run_bind, hx, hy, h.out, Result.andThen_ok]
  cases b
  · rfl
  · exact hr.out w⟩
theorem cmp_struct {t : TypeId} {xs ys : Array Value} {fs : List Field} {b : Bool} (ht : P.underlying t = some (.struct (P.fieldsOf t))) (hp : P.stoodInHeld t = false) (hf : (P.fieldsOf t).toList = fs) (h : CmpF P d xs ys fs b) : Cmp P (d + 1) t (.agg xs) (.agg ys) b := ⟨fun w => by
  rw [run_equalIn_struct w d t xs ys ht hp, hf]
  exact h.out w⟩
end
end Go.Proofs.YtllhbcpbihhdnaaGreatDoor
end
section
set_option linter.unusedVariables false
set_option linter.unusedSimpArgs false
namespace Go.Proofs.YtllhbcpbihhdnaaGreatDoor
open Go.RowKit
section
variable {P : Program} {ops : Array Oper} {o : Oper} {a : Act} {w : World}
theorem ev_store {K : Act → World → Prop} {Q : Exit → Act → World → Prop} (hw : Region.wanted o (yielded ops a.tmps) = true) (T : TypeId) (x y : Operand) (ho : o.op = .store T x y) (b k : Nat) (hx : a.eval x = .pointer (some ⟨b, k, none⟩)) (c c' : Array Value) (t : TypeId) (hb : Blk w b c t) (hy : a.eval y = .agg c')
    (hs : k + c'.size ≤ c.size) (hi : (P.info? T).map (·.size) = some c'.size) (h1 : c'.all (·.oneCell') = true)
    (h : ∀ w', Blk w' b (setL c k c'.toList) t → Chg (fun k => k = b) w w' → K (a.put o.dst undef) w') : if Region.wanted o (yielded ops a.tmps) = true then Oper.wp P o a w K Q else K (a.put o.dst undef) w := by
  rw [if_pos hw]
  refine wp_store_mid T x y ho b k c' hx hy (fun j hj => ?_) hi h1 (h _ (Blk.setCells c'.toList k hb) (chg_setCells _ _ _))
  refine ⟨?_, hb.free _⟩
  rw [hb.cell (k + j) c[k + j] (Array.getElem?_eq_getElem (by omega))]
  rfl
theorem blk_rangeAt {b k : Nat} {cs : Array Value} {t : TypeId} (h : Blk w b cs t) (l : List Value) (hl : ∀ j v, l[j]? = some v → cs[k + j]? = some v) : w.rangeAt b k l := fun j v hv => h.cell (k + j) v (hl j v hv)
theorem load_off {rest : List Oper} {Q : Exit → Act → World → Prop} (hgd : o.guard = none) (T : TypeId) (x : Operand) (ho : o.op = .load T x) (b k : Nat) (hx : a.eval x = .pointer (some ⟨b, k, none⟩)) (cs : Array Value) (t : TypeId) (hb : Blk w b cs t) (l : Array Value) (hl : l.toList = (cs.toList.drop k).take l.size) (d : TypeDesc) (hu : P.underlying T = some d) (hd : d.isRow = true) (hi : (P.info? T).map (·.size) = some l.size)
    (h : wpList P ops Q rest (a.put o.dst (.agg l)) w) : wpList P ops Q (o :: rest) a w :=
  wpList_load_mid hgd T x ho b k hx l.toList d (blk_rangeAt hb _ fun j v hv => by
    rw [hl, List.getElem?_take] at hv
    split at hv
    · rw [List.getElem?_drop] at hv
      simpa using hv
    · cases hv) hu hd (by simpa using hi) (by simpa using h)
theorem blk_off {b : Nat} {cs : Array Value} {t : TypeId} (h : Blk w b cs t) (k : Nat) (l : Array Value) (hl : l.toList = (cs.toList.drop k).take l.size) : w.rangeAt b k l.toList := blk_rangeAt h _ fun j v hv => by
    rw [hl, List.getElem?_take] at hv
    split at hv
    · rw [List.getElem?_drop] at hv
      simpa using hv
    · cases hv
theorem load_off_g {rest : List Oper} {Q : Exit → Act → World → Prop} (hw : Region.wanted o (yielded ops a.tmps) = true) (T : TypeId) (x : Operand) (ho : o.op = .load T x) (b k : Nat) (hx : a.eval x = .pointer (some ⟨b, k, none⟩)) (cs : Array Value) (t : TypeId) (hb : Blk w b cs t) (l : Array Value) (hl : l.toList = (cs.toList.drop k).take l.size) (d : TypeDesc) (hu : P.underlying T = some d) (hd : d.isRow = true) (hi : (P.info? T).map (·.size) = some l.size)
    (h : wpList P ops Q rest (a.put o.dst (.agg l)) w) : wpList P ops Q (o :: rest) a w := by
  refine wpList_step fun K hK => ?_
  rw [if_pos hw]
  exact wp_load_mid T x ho b k hx l.toList d (blk_off hb k l hl) hu hd (by simpa using hi) (hK _ _ (by simpa using h))
end
end Go.Proofs.YtllhbcpbihhdnaaGreatDoor
end
section
set_option linter.unusedVariables false
namespace Go.Proofs.YtllhbcpbihhdnaaGreatDoor
open Go.RowKit Go.ChangeShapes
abbrev Env := Lv
theorem env_of_laid {l1 l2 : String × DataW Unit} {r : List (String × DataW Unit)} {lst : List (String × DataW Unit)} {W : World}
    (h : lst = l1 :: l2 :: ("internal/strconv.uint64pow10", Lib.tabData .u64 Lib.pow10Tab) :: r)
    (hL : laidMet Tryz.prog lst W) (hsh : W.ShapedOpen Tryz.prog) : Env W := by
  subst h
  exact ⟨hsh, Lib.tabIs_of_head gPow (by kernel_rfl) Tryz.underlying184 Tryz.underlying167 (by kernel_rfl) (by kernel_rfl) hL.tail.tail⟩
section
variable {H : Type} {enc : TypeId × Value → H}
/-- The kit's wrap of a law's row, with the shapes handed on. -/
theorem handed_open {a : Assume} {C : Checked} {os : Os} {f : FuncId} {fn : Func} {s : ChangeSpec} {conds : List PathCond} {apart fresh handsOn again : Bool} {X : World → Array Value → Prop}
    (hX : ∀ (w w' : World) (args : Array Value), w.heap = w'.heap → X w args → X w' args)
    (own : ownKnob C.prog.godebug = none) (started : os.Started) (noInit : C.prog.inits.idxOf? f = none) (hfn : C.prog.funcs[f]? = some fn)
    (witness : ∃ (w : World) (tape : Tape) (i : Input), w.os = os ∧ (w.forCall tape i).Shaped C.prog ∧ i.vars = [] ∧ Input.okWide C.prog (w.forCall tape i) .any w.heap.size f i ∧
      ((s.pre enc C.prog fn conds apart (w.forCall tape i).memory i.args ∧ X (w.forCall tape i).memory i.args) ∧ sizedMet enc C.prog fn (OpenSpec.ofChange s) apart (w.forCall tape i).memory i.args) ∧ a.holds C.prog (lone (Frame.enter C.prog f i.args .normal) [] (w.forCall tape i)))
    (contract : ∀ (W : World) (base : Nat) (args : Array Value) (ds gs : List (DataW H)) (before : List MemPlace), W.ShapedOpen C.prog →
      (∀ (j : Nat) t v, fn.params[j]? = some t → args[j]? = some v → Value.okWide C.prog W .any base t v) →
      DataW.Whole enc C.prog fn.params.toList s.vars apart W args.toList ds gs before →
      conds.all (PathCond.test C.prog ⟨fn.params.toList, ds, s.plain.varTypes C.prog, gs⟩) = true →
      (DataW.weightsEach C.prog (fn.params.toList ++ s.plain.varTypes C.prog) (ds ++ gs)).all (· ≤ reachBytes) = true → X W args →
      a.holds C.prog (lone (Frame.enter C.prog f args .normal) [] W) →
      Calls C.prog f args W fun e W' => ∃ v, e = .returned v ∧ s.post enc C.prog fn apart fresh handsOn again W args v W') :
    ReturnsInHanded a C os f .any (fun w args => (s.pre enc C.prog fn conds apart w args ∧ X w args) ∧ sizedMet enc C.prog fn (OpenSpec.ofChange s) apart w args) (s.post enc C.prog fn apart fresh handsOn again) := by
  refine returnsInHanded_of_calls own started noInit witness ?_
  intro w tape i _ hsh _ hok hpre hholds
  obtain ⟨_, _, _, fn', hfn', _, _, _, _, hval⟩ := hok
  have e : fn' = fn := Option.some.inj (hfn'.symm.trans hfn)
  subst e
  obtain ⟨⟨⟨ds, gs, before, hw, hc⟩, hx⟩, hz⟩ := hpre
  have hw' := DataW.Whole.of_heap (w' := w.forCall tape i) (by rfl) hw
  refine (contract (w.forCall tape i) w.heap.size i.args ds gs before hsh hval hw' hc (hz.weights hw) (hX _ _ _ (by rfl) hx) hholds).mono fun e W' ⟨v, he, hp⟩ => ?_
  subst he
  exact ChangeSpec.post_blind hp
end
end Go.Proofs.YtllhbcpbihhdnaaGreatDoor
end
