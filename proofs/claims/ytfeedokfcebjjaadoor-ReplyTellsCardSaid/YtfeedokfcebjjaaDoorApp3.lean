/-
  append of many texts, in a plain region.
-/
import Derived.Test.YtfeedokfcebjjaaDoorApp
import Derived.Deep.Upon
set_option linter.unusedVariables false
set_option linter.unusedSimpArgs false
namespace Go.Proofs.YtfeedokfcebjjaaDoor
open Go.RowKit
/-- A slice of no text, with a block of its own. -/
theorem Row.lit0 (w : World) (base : Nat) (hb : base ≤ w.heap.size) : Row (w.alloc (.cells #[] 9)) base (.slice (some ⟨w.heap.size, 0, none⟩) 0 0) [] :=
  World.ownsRow_lit w #[] 0 hb (by decide) rfl
section
variable {ops : Array Oper} {rest : List Oper} {o : Oper} {a : Act} {w : World} {Q : Exit → Act → World → Prop}
/-- append of some texts that lie in memory. -/
theorem app_strs (hgd : o.guard = none) (s x : Operand) (ho : o.op = .call { callee := .builtin .append, args := #[s, x], argTypes := #[22, 22] }) (base : Nat) (v : Value) (xs : List ByteArray) (n : Nat) (hlen : xs.length = n) (hs : a.eval s = v)
    (hown : Row w base v xs) (A : Option Addr) (m c : Nat) (hx : a.eval x = .slice A m c) (t : List ByteArray) (htm : t.length = m) (hS : Strs w A t) (hm : 1 ≤ m) (hn : n + m ≤ 1000000) (hbase : base ≤ w.heap.size)
    (h : ∀ g cap w', Row w' base (.slice (some ⟨g, 0, none⟩) (n + m) cap) (xs ++ t) → w.grownBy w' v.ownBlock → (v.ownBlock = some g ∨ g = w.heap.size) → g < w'.heap.size → wpList Tryd.prog ops Q rest (a.put o.dst (.slice (some ⟨g, 0, none⟩) (n + m) cap)) w') :
    wpList Tryd.prog ops Q (o :: rest) a w := by
  obtain ⟨i, hi, hz, hsz, hby⟩ := strInfo
  subst hlen htm
  obtain ⟨b, off, rfl, hl, hc⟩ := hS (by intro e; rw [e] at hm; simp at hm)
  refine wpList_append_lies w hgd s x 22 ho base 9 i (.string ⟨#[]⟩) 1 16 Tryd.underlying22 hi hz hsz hby rfl (by omega) v xs.length (xs.map Value.string) hs hown ⟨b, off, none⟩ t.length c (t.map Value.string) hx (by simp)
    (fun j u hu => by
      rw [List.getElem?_map] at hu
      cases hj : t[j]? with
      | none => rw [hj] at hu; simp at hu
      | some q =>
        rw [hj] at hu
        simp only [Option.map_some, Option.some.injEq] at hu
        subst hu
        obtain ⟨hj1, hj2⟩ := List.getElem?_eq_some_iff.1 hj
        subst hj2
        rw [Addr.add_mid]
        exact hc j hj1)
    (fun u hu => by obtain ⟨q, _, rfl⟩ := List.mem_map.1 hu; rfl) (by omega) (by unfold maxLen; omega) (by omega) hbase _ rfl ?_
  intro g cap w' h1 h2 h3 h4
  refine h g cap w' ?_ h2 h3 h4
  unfold Row
  simpa using h1
/-- append of nothing. -/
theorem app_none (hgd : o.guard = none) (s x : Operand) (ho : o.op = .call { callee := .builtin .append, args := #[s, x], argTypes := #[22, 22] }) (B : Option Addr) (n k : Nat) (hnk : n ≤ k) (hs : a.eval s = .slice B n k)
    (A : Option Addr) (c : Nat) (hx : a.eval x = .slice A 0 c) (h : wpList Tryd.prog ops Q rest (a.put o.dst (.slice B n k)) w) :
    wpList Tryd.prog ops Q (o :: rest) a w := by
  refine wpList_plain hgd fun K hK => ?_
  obtain ⟨i, hi, hz, hsz, hby⟩ := strInfo
  have hsrc : Src Tryd.prog i.size 22 (.slice A 0 c) 0 [] w := by
    cases A with
    | none => exact Src.ofNil w Tryd.underlying22 c
    | some ad => exact Src.ofSlice w Tryd.underlying22 ad 0 c [] (by simp) (fun j u hu => by simp at hu) (fun u hu => by cases hu)
  have hr := run_append_nothing (P := Tryd.prog) w 22 22 o.type 9 i Tryd.underlying22 hi B n k hnk (.slice A 0 c) hsrc
  unfold Oper.wp execOp
  simp only [ho, resolve, invoke, builtin, Sem.run_bind, Sem.run_pure, Result.andThen_ok, List.map_toArray, List.map_cons, List.map_nil, hs, hx, hr]
  exact hK _ _ h
end
end Go.Proofs.YtfeedokfcebjjaaDoor
