/-
  In a region that draws its order: a call that leaves the world as it is may be taken first.
-/
import Derived.OrdersHeld
set_option linter.unusedVariables false
set_option linter.unusedSimpArgs false
namespace Go.Proofs.YtfffdbjfhdkheaaGreatDoor

section
variable {P : Program} {ops : Array Oper} {Q : Exit → Act → World → Prop} {md : Region.Mode} {S : World → Prop}
/-- At this state the operation is a call that answers v and leaves each world as it is. -/
structure Still (P : Program) (ops : Array Oper) (o : Oper) (v : Value) (a : Act) : Prop where
  want : Region.wanted o (yielded ops a.tmps) = true
  call : ∀ w, ∃ f args, (execOp a.eval o).run P w = .ok (.enter f args) w ∧ Calls P f args w fun e w' => e = .returned v ∧ w' = w
theorem Still.same {o : Oper} {v : Value} {a a' : Act} (h : Still P ops o v a) (he : execOp a'.eval o = execOp a.eval o) (hw : Region.wanted o (yielded ops a'.tmps) = Region.wanted o (yielded ops a.tmps)) : Still P ops o v a' :=
  ⟨hw.trans h.want, by rw [he]; exact h.call⟩
theorem Still.goes {i : Nat} {o : Oper} {v : Value} {a : Act} (hi : ops[i]? = some o) (h : Still P ops o v a) {K : Act → World → Prop} {w : World} (hk : K (a.put o.dst v) w) : wpOp P ops Q i K a w := by
  obtain ⟨f, args, h1, h2⟩ := h.call w
  unfold wpOp
  simp only [hi, h.want, if_true]
  refine .inl ?_
  unfold Oper.wp
  rw [h1]
  refine h2.mono fun e w' he => ?_
  obtain ⟨rfl, rfl⟩ := he
  exact hk
/-- What an operation leaves: its temporary, and what is put off. -/
theorem shape {j : Nat} {o : Oper} (hj : ops[j]? = some o) {K : Act → World → Prop} {a : Act} {w : World} (h : wpOp P ops Q j K a w) :
    wpOp P ops Q j (fun a' w' => (∃ u d, a' = ({ a with defers := d } : Act).put o.dst u) ∧ K a' w') a w := by
  unfold wpOp at *
  simp only [hj] at *
  split
  · rename_i hw
    simp only [hw, if_true] at h
    rcases h with h | h
    · refine .inl ?_
      unfold Oper.wp at *
      generalize (execOp a.eval o).run P w = r at *
      cases r with
      | ok n w' =>
        cases n <;> simp only [Oper.upon] at h ⊢
        case value u => exact ⟨⟨u, a.defers, rfl⟩, h⟩
        case skip => exact ⟨⟨undef, a.defers, rfl⟩, h⟩
        case defer d => exact ⟨⟨undef, d :: a.defers, rfl⟩, h⟩
        case enter f args =>
          refine Calls.mono h fun e w'' he => ?_
          cases e with
          | returned u => exact ⟨⟨u, a.defers, rfl⟩, he⟩
          | panicked c => exact he
          | outgrown => exact he
        case row row args => exact Rows.mono h fun u w'' he => ⟨⟨u, a.defers, rfl⟩, he⟩
      | halt x w' => cases x <;> simp only [Oper.upon] at h ⊢ <;> exact h
    · exact .inr h
  · rename_i hw
    simp only [hw] at h
    exact ⟨⟨undef, a.defers, rfl⟩, h⟩
/-- What stands apart from it comes to the same ahead of it. -/
theorem Still.swap {j : Nat} {oi oj : Oper} {v : Value} (hj : ops[j]? = some oj) (hap : oi.apart ops oj = true) (hsi : ∀ cs b, oi.op ≠ .select cs b) (hsj : ∀ cs b, oj.op ≠ .select cs b)
    (hQ : ∀ c a w, Q (.panic c) (a.put oi.dst v) w → Q (.panic c) a w) {K : Act → World → Prop} {a : Act} {w : World} (hy : Still P ops oi v a) (h : wpOp P ops Q j K (a.put oi.dst v) w) :
    wpOp P ops Q j (fun a' w' => Still P ops oi v a' ∧ K (a'.put oi.dst v) w') a w := by
  have h0 : YieldsIf P ops (fun _ => False) oi v a := .inl ⟨hy.want, fun _ q => q.elim⟩
  refine wpOp_mono (fun a' w' hh => ?_) (shape hj (wpOp_putIf hj hap hsi hsj hQ h0 h))
  obtain ⟨⟨u, d, rfl⟩, _, hk⟩ := hh
  have h3 := (Oper.apart_spec hap).2.2
  have hd : Still P ops oi v ({ a with defers := d } : Act) := hy.same rfl rfl
  exact ⟨hd.same (execOp_put oi hsi _ oj.dst u h3) (wanted_put oi _ oj.dst u h3), hk⟩
theorem still_first {i : Nat} {oi : Oper} {v : Value} (hi : ops[i]? = some oi) (hsel : ∀ (j : Nat) (o : Oper) cs b, ops[j]? = some o → o.op ≠ .select cs b) (hQ : ∀ c a w, Q (.panic c) (a.put oi.dst v) w → Q (.panic c) a w) (n : Nat) :
    ∀ (listed : Array Bool) (a : Act) (w : World), (∀ j oj, ops[j]? = some oj → j ≠ i → listed.getD j true = false → (∀ e ∈ oj.after, Region.binds md e = true → e.on ≠ i) → oi.apart ops oj = true) →
      i ∈ Region.ready md ops listed → Still P ops oi v a → S w → wpAnyH P md ops Q S n (listed.setIfInBounds i true) (a.put oi.dst v) w → wpAnyH P md ops Q S (n + 1) listed a w := by
  induction n with
  | zero =>
    intro listed a w hfree hr hy hS H
    refine ⟨fun q => (by rw [q] at hr; cases hr), fun j hj => ?_⟩
    by_cases e : j = i
    · subst e; exact hy.goes hi ⟨hS, H⟩
    · have q := ready_mono hj e
      rw [H.1] at q
      cases q
  | succ n ih =>
    intro listed a w hfree hr hy hS H
    refine ⟨fun q => (by rw [q] at hr; cases hr), fun j hj => ?_⟩
    by_cases e : j = i
    · subst e; exact hy.goes hi ⟨hS, H⟩
    · have h1 := H.2 j (ready_mono hj e)
      obtain ⟨hun, oj, hoj, hall⟩ := mem_ready.1 hj
      have hi0 := (mem_ready.1 hr).1
      have hno : ∀ e ∈ oj.after, Region.binds md e = true → e.on ≠ i := fun e he hb heq => by
        have q := hall e he hb
        rw [heq] at q
        rcases Nat.lt_or_ge i listed.size with g | g
        · simp [g] at hi0 q; rw [hi0] at q; cases q
        · simp [Array.getElem?_eq_none g] at q
      have h2 := hy.swap hoj (hfree j oj hoj e hun hno) (fun cs b => hsel i oi cs b hi) (fun cs b => hsel j oj cs b hoj) hQ h1
      refine wpOp_mono (fun a' w' h3 => ⟨h3.2.1, ih (listed.setIfInBounds j true) a' w' (fun k ok hk hki hu hn => ?_) (ready_mono hr (Ne.symm e)) h3.1 h3.2.1 ?_⟩) h2
      · refine hfree k ok hk hki ?_ hn
        by_cases hjk : j = k
        · subst hjk; exact hun
        · rw [getD_set_ne true hjk] at hu; exact hu
      · rw [Array.setIfInBounds_comm _ _ e]
        exact h3.2.2
/-- Take call number i first. -/
theorem take_still {i : Nat} {oi : Oper} {v : Value} {n : Nat} {listed : Array Bool} {a : Act} {w : World} (hi : ops[i]? = some oi) (hs : Region.noSelect ops = true) (hf : Region.free md ops listed i = true) (hr : (Region.ready md ops listed).contains i = true)
    (hQ : ∀ c a w, Q (.panic c) (a.put oi.dst v) w → Q (.panic c) a w) (hy : Still P ops oi v a) (hS : S w) (h : wpAnyH P md ops Q S n (listed.setIfInBounds i true) (a.put oi.dst v) w) : wpAnyH P md ops Q S (n + 1) listed a w :=
  still_first hi (Region.noSelect_spec hs) hQ n listed a w (Region.free_spec hi hf) (by simpa using hr) hy hS h
end
end Go.Proofs.YtfffdbjfhdkheaaGreatDoor
