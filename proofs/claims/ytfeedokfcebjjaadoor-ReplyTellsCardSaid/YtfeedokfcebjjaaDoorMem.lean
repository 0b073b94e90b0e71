/-
  Plain words on what a call may have changed in memory: all that lay there but some named blocks is as it was.
-/
import Derived.WalkKit
import Derived.WalkSpells
import Derived.WalkLawsBesides
import Derived.Lib.ConvBytes
import Derived.OneCell
import Derived.Lib.Hide
set_option linter.unusedVariables false
set_option linter.unusedSimpArgs false
namespace Go.Proofs.YtfeedokfcebjjaaDoor
open Go.RowKit

/-- Of what lay in w only blocks of which K holds may have changed. -/
structure Chg (K : Nat → Prop) (w w' : World) : Prop where
  os : w'.os = w.os
  tape : w'.tape = w.tape
  output : w'.output = w.output
  size : w.heap.size ≤ w'.heap.size
  block : ∀ k, k < w.heap.size → ¬ K k → w'.heap[k]? = w.heap[k]?

def NoK : Nat → Prop := fun _ => False

theorem Chg.refl (K : Nat → Prop) (w : World) : Chg K w w := ⟨rfl, rfl, rfl, Nat.le_refl _, fun _ _ _ => rfl⟩
theorem Chg.trans {K K' : Nat → Prop} {a b c : World} (h : Chg K a b) (k : Chg K' b c) (hk : ∀ i, i < a.heap.size → K' i → K i) : Chg K a c :=
  ⟨k.os.trans h.os, k.tape.trans h.tape, k.output.trans h.output, Nat.le_trans h.size k.size,
    fun i hi hn => (k.block i (Nat.lt_of_lt_of_le hi h.size) (fun q => hn (hk i hi q))).trans (h.block i hi hn)⟩
theorem Chg.mono {K K' : Nat → Prop} {a b : World} (h : Chg K a b) (hk : ∀ i, i < a.heap.size → K i → K' i) : Chg K' a b :=
  ⟨h.os, h.tape, h.output, h.size, fun i hi hn => h.block i hi (fun q => hn (hk i hi q))⟩
theorem Chg.alloc {K : Nat → Prop} {a w : World} (h : Chg K a w) (o : Obj) : Chg K a (w.alloc o) :=
  ⟨h.os, h.tape, h.output, by have := h.size; simp; omega, fun k hk hn => (Below.heap_alloc w o k (Nat.lt_of_lt_of_le hk h.size)).trans (h.block k hk hn)⟩
theorem Chg.setCell {K : Nat → Prop} {a w : World} (h : Chg K a w) {p : Addr} (hp : p.block < a.heap.size → K p.block) (u : Value) : Chg K a (w.setCell p u) :=
  ⟨h.os, h.tape, h.output, by simpa [World.setCell] using h.size, fun k hk hn => (Below.heap_setCell w p u k (fun e => hn (e ▸ hp (e ▸ hk)))).trans (h.block k hk hn)⟩
theorem Chg.drew {K : Nat → Prop} {a w : World} (h : Chg K a w) : Chg K a w.drew := ⟨h.os, h.tape, h.output, h.size, h.block⟩
theorem Chg.drewN {K : Nat → Prop} {a w : World} (h : Chg K a w) (n : Nat) : Chg K a (w.drewN n) := ⟨h.os, h.tape, h.output, h.size, h.block⟩
theorem Chg.grown {K : Nat → Prop} {a w w' : World} {row : Option Nat} (h : Chg K a w) (hg : w.grownBy w' row) (hr : ∀ k, row = some k → k < a.heap.size → K k) : Chg K a w' :=
  ⟨hg.os.trans h.os, hg.tape.trans h.tape, hg.output.trans h.output, Nat.le_trans h.size hg.size,
    fun k hk hn => (hg.block k (Nat.lt_of_lt_of_le hk h.size) (fun e => hn (hr k e.symm hk))).trans (h.block k hk hn)⟩
theorem Chg.ofBelow {w w' : World} (h : Below w.heap.size w w') (K : Nat → Prop) : Chg K w w' := ⟨h.os, h.tape, h.output, h.size, fun k hk _ => h.block k hk⟩
/-- All that changed lay behind B: below B all is as it was. -/
theorem Chg.below {K : Nat → Prop} {W w w' : World} {B : Nat} (hb : Below B W w) (h : Chg K w w') (hk : ∀ k, K k → B ≤ k) (hB : B ≤ w.heap.size) : Below B W w' :=
  hb.trans ⟨h.os, h.tape, h.output, h.size, fun k hk' => h.block k (Nat.lt_of_lt_of_le hk' hB) (fun q => by have := hk k q; omega)⟩
theorem Chg.toBelow {K : Nat → Prop} {w w' : World} (h : Chg K w w') (hk : ∀ k, k < w.heap.size → ¬ K k) : Below w.heap.size w w' :=
  ⟨h.os, h.tape, h.output, h.size, fun k hk' => h.block k hk' (hk k hk')⟩
theorem Chg.at {K : Nat → Prop} {w w' : World} (h : Chg K w w') {k : Nat} {o : Obj} (ho : w.heap[k]? = some o) (hk : ¬ K k) : w'.heap[k]? = some o :=
  (h.block k (lt_of_block ho) hk).trans ho
theorem Chg.bytes {K : Nat → Prop} {a w : World} (h : Chg K a w) (e : TypeId) (s : ByteArray) : Chg K a (Lib.bytesWorld w e s) :=
  h.trans (K' := NoK) ⟨rfl, rfl, rfl, by rw [Lib.bytesWorld_size]; omega, fun k hk _ => Lib.bytesWorld_at_old w e s k hk⟩ (fun _ _ q => q.elim)

/-- A block of one cell, that may be written. -/
abbrev One (w : World) (b : Nat) (v : Value) (t : TypeId) : Prop := w.heap[b]? = some (.cells #[v] t (0, 0))
theorem One.alloc {w : World} (v : Value) (t : TypeId) : One (w.alloc (.cells #[v] t (0, 0))) w.heap.size v t := heap_alloc_new w _
theorem One.old {w : World} {b : Nat} {v : Value} {t : TypeId} (h : One w b v t) (o : Obj) : One (w.alloc o) b v t := (Below.heap_alloc w o b (lt_of_block h)).trans h
theorem One.set {w : World} {b : Nat} {v u : Value} {t : TypeId} (h : One w b v t) : One (w.setCell ⟨b, 0, none⟩ u) b u t := one_setCell h
theorem One.setOther {w : World} {b : Nat} {v u : Value} {t : TypeId} (h : One w b v t) (a : Addr) (hne : b ≠ a.block) : One (w.setCell a u) b v t := (Below.heap_setCell w a u b hne).trans h
theorem One.bytes {w : World} {b : Nat} {v : Value} {t : TypeId} (h : One w b v t) (e : TypeId) (s : ByteArray) : One (Lib.bytesWorld w e s) b v t := (Lib.bytesWorld_at_old w e s b (lt_of_block h)).trans h
/-- A block of cells that may be written. -/
abbrev Blk (w : World) (b : Nat) (cs : Array Value) (t : TypeId) : Prop := w.heap[b]? = some (.cells cs t (0, 0))
theorem Blk.lt {w : World} {b : Nat} {cs : Array Value} {t : TypeId} (h : Blk w b cs t) : b < w.heap.size := lt_of_block h
theorem Blk.cell {w : World} {b : Nat} {cs : Array Value} {t : TypeId} (h : Blk w b cs t) (i : Nat) (v : Value) (hv : cs[i]? = some v) : w.cell? ⟨b, i, none⟩ = some v := by simp [World.cell?, h, hv]
theorem Blk.free {w : World} {b : Nat} {cs : Array Value} {t : TypeId} (h : Blk w b cs t) (i : Nat) : w.frozen? ⟨b, i, none⟩ = false := by simp [World.frozen?, h]
theorem Blk.new {w : World} (cs : Array Value) (t : TypeId) : Blk (w.alloc (.cells cs t (0, 0))) w.heap.size cs t := heap_alloc_new w _
theorem Blk.old {w : World} {b : Nat} {cs : Array Value} {t : TypeId} (h : Blk w b cs t) (o : Obj) : Blk (w.alloc o) b cs t := (Below.heap_alloc w o b (lt_of_block h)).trans h
theorem Blk.set {w : World} {b : Nat} {cs : Array Value} {t : TypeId} (h : Blk w b cs t) (i : Nat) (v : Value) : Blk (w.setCell ⟨b, i, none⟩ v) b (cs.setIfInBounds i v) t := by
  simp only [Blk, World.setCell, Array.getElem?_modify, if_true]
  rw [h]
  simp
theorem Blk.setOther {w : World} {b : Nat} {cs : Array Value} {u : Value} {t : TypeId} (h : Blk w b cs t) (a : Addr) (hne : b ≠ a.block) : Blk (w.setCell a u) b cs t := (Below.heap_setCell w a u b hne).trans h
theorem Blk.below {w w1 : World} {b : Nat} {cs : Array Value} {t : TypeId} (h : Blk w b cs t) (hb : Below w.heap.size w w1) : Blk w1 b cs t := (hb.block b (lt_of_block h)).trans h
theorem Blk.chg {K : Nat → Prop} {w w1 : World} {b : Nat} {cs : Array Value} {t : TypeId} (h : Blk w b cs t) (hb : Chg K w w1) (hk : ¬ K b) : Blk w1 b cs t := (hb.block b (lt_of_block h) hk).trans h
theorem Blk.bytes {w : World} {b : Nat} {cs : Array Value} {t : TypeId} (h : Blk w b cs t) (e : TypeId) (s : ByteArray) : Blk (Lib.bytesWorld w e s) b cs t := (Lib.bytesWorld_at_old w e s b (lt_of_block h)).trans h
/-- A step further: what a call that makes memory leaves. -/
theorem Below.next {a b c : World} {B : Nat} (h : Below B a b) (k : Below b.heap.size b c) (hB : B ≤ a.heap.size) : Below B a c := h.trans (k.mono (Nat.le_trans hB h.size))
theorem cell_next {w w1 : World} (h : Below w.heap.size w w1) {a : Addr} {v : Value} (hc : w.cell? a = some v) : w1.cell? a = some v := (h.cell (World.block_lt_of_cell? w a hc)).trans hc
theorem pw_below_drewN {B : Nat} {w W : World} (h : Below B w W) (n : Nat) : Below B w (W.drewN n) := ⟨h.os, h.tape, h.output, h.size, h.block⟩
theorem free_next {w w1 : World} (h : Below w.heap.size w w1) {a : Addr} {v : Value} (hc : w.cell? a = some v) (hf : w.frozen? a = false) : w1.frozen? a = false := (h.frozen (World.block_lt_of_cell? w a hc)).trans hf
theorem ret_int {k : IntKind} {a b : Int} (h : a = b) : Ending.returned (.int k a) = Ending.returned (.int k b) := by rw [h]
theorem ret_bool {a b : Bool} (h : a = b) : Ending.returned (.bool a) = Ending.returned (.bool b) := by rw [h]
theorem ret_str {a b : ByteArray} (h : a = b) : Ending.returned (.string a) = Ending.returned (.string b) := by rw [h]
/-- A fact that the walk's simp doesn't look into. -/
structure Aside (p : Prop) : Prop where mk :: (out : p)
end Go.Proofs.YtfeedokfcebjjaaDoor
