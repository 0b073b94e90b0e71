/-
  The reference of layer 5: a type; xtext.
-/
import Derived.Test.YtfffdbjfhdkheaaGreatDoorQPfB
import Derived.Deep.RegionHeld3
set_option linter.unusedVariables false
set_option linter.unusedSimpArgs false
namespace Go.Proofs.YtfffdbjfhdkheaaGreatDoor
open Go.RowKit Go.Shelf
set_option maxRecDepth 100000
section
variable {ops : Array Oper} {o : Oper} {a : Act} {w : World} {Q : Exit → Act → World → Prop} {K : Act → World → Prop} {E : Prop}
/-- append of some bytes, at a region that draws its order. -/
theorem app_bytes_step (hgd : o.guard = none) (s x : Operand) (ho : o.op = .call { callee := .builtin .append, args := #[s, x], argTypes := #[84, 84] }) (base : Nat) (v : Value) (xs : List UInt8) (hs : a.eval s = v)
    (hown : BRow w base v xs) (g0 : Nat) (t : List UInt8) (ht : t ≠ []) (hx : a.eval x = .slice (some ⟨g0, 0, none⟩) t.length t.length) (hc : w.heap[g0]? = some (.cells (t.map byteV).toArray 5 (0, 0))) (hn : xs.length + t.length ≤ 1000000) (hbase : base ≤ w.heap.size)
    (h : ∀ v' w', BRow w' base v' (xs ++ t) → w.grownBy w' v.ownBlock → K (a.put o.dst v') w') :
    if Region.wanted o (yielded ops a.tmps) = true then Oper.wp Tryz.prog o a w K Q else E := by
  obtain ⟨i, hi, hz, hsz, hby⟩ := byteInfo
  have hp : 1 ≤ t.length := List.length_pos_iff.2 ht
  refine step_append_lies w hgd s x 84 ho base 5 i (.int .u8 0) 1 1 Tryz.underlying84 hi hz hsz hby rfl (by omega) v xs.length (xs.map byteV) hs hown ⟨g0, 0, none⟩ t.length t.length (t.map byteV) hx (by simp)
    (by have := World.news_of_block hc; simpa using this) (by intro u hu; obtain ⟨q, _, rfl⟩ := List.mem_map.1 hu; rfl) (by omega) (by unfold maxLen; omega) (by omega) hbase _ rfl ?_
  intro g cap w' h1 h2 h3 h4
  refine h _ w' ?_ h2
  unfold BRow
  simpa using h1
end
theorem BRow.drew1 {w : World} {base : Nat} {v : Value} {bs : List UInt8} (h : BRow w base v bs) : BRow w.drew base v bs := h.next (pw_below_drewN (Below.refl _ _) 1)
theorem letter_up (x : UInt8) : Txt.letter x = !(((decide (((Txt.up x).toNat : Int) < 65)) || (decide ((90 : Int) < ((Txt.up x).toNat : Int)))) && ((decide (((Txt.up x).toNat : Int) < 48)) || (decide ((57 : Int) < ((Txt.up x).toNat : Int))))) := by
  rw [Bool.eq_iff_iff]
  unfold Txt.letter
  by_cases h : 97 ≤ x.toNat ∧ x.toNat ≤ 122
  · have := Txt.up_low h
    simp only [decide_eq_true_eq, Bool.and_eq_true, Bool.not_eq_true', Bool.and_eq_false_iff, Bool.or_eq_false_iff, decide_eq_false_iff_not]
    omega
  · have : Txt.up x = x := by unfold Txt.up; rw [if_neg h]
    rw [this]
    simp only [decide_eq_true_eq, Bool.and_eq_true, Bool.not_eq_true', Bool.and_eq_false_iff, Bool.or_eq_false_iff, decide_eq_false_iff_not]
    omega
theorem all_no {α : Type} {p : α → Bool} {l : List α} {x : α} (hx : x ∈ l) (h : p x = false) : l.all p = false := by
  cases hl : l.all p with
  | false => rfl
  | true => rw [List.all_eq_true.1 hl x hx] at h; cases h
theorem ext_one (s : ByteArray) (k : Nat) (h : k < s.size) : (s.extract k (k + 1)).data.toList = [s[k]] := by
  have hl : k < s.data.toList.length := by simpa using h
  have : (s.extract k (k + 1)).data.toList = (s.data.toList.drop k).take 1 := by simp [List.extract_eq_take_drop]
  rw [this, List.drop_eq_getElem_cons hl]
  rfl
set_option maxHeartbeats 8000000 in
theorem refTyped_any (s : ByteArray) (hs : s.size ≤ 100000) (w : World) : Calls Tryz.prog 74 #[.string s] w fun e w' => e = .returned (.bool (Pm.typed s.data.toList)) ∧ Below w.heap.size w w' := by
  have hlen : s.data.toList.length = s.size := by simp
  by_cases h0 : 1 ≤ s.size
  · have h1 : decide ((s.size : Int) < 1) = false := decide_eq_false (by omega)
    by_cases h32 : s.size ≤ 32
    · have h2 : decide ((32 : Int) < (s.size : Int)) = false := decide_eq_false (by omega)
      have HP : Aside (Pm.typed s.data.toList = s.data.toList.all Txt.letter) := ⟨by unfold Pm.typed; rw [decide_eq_true (by omega)]; rfl⟩
      go_enter Tryz.func74, Tryz.ntmps74
      go_wp2
      go_loopw [3, 4] (fun i c wr => ∃ k : Nat, k ≤ s.size ∧ i = .int .i64 k ∧ (s.data.toList.take k).all Txt.letter = true ∧ Below w.heap.size w wr) (fun i _ _ => s.size - (intOf i).toNat)
      case atStart => exact ⟨0, by omega, rfl, by simp, Below.refl _ w⟩
      case round =>
        obtain ⟨k, hk, rfl, hall, hlow⟩ := hrel
        have L := Aside.mk hlow
        have HA := Aside.mk hall
        clear hlow hall
        by_cases hlt : k < s.size
        · have HT := Aside.mk (take_next s k hlt)
          have hU := fun W => refUpper_any (s.extract k (k + 1)) (by rw [ByteArray.size_extract]; omega) W
          rw [ext_one s k hlt] at hU
          have hl := letter_up s[k]
          have hmem : s[k] ∈ s.data.toList := by
            have e1 : s.data.toList.take (k + 1) = s.data.toList.take k ++ [s[k]] := take_next s k hlt
            exact List.mem_of_mem_take (by rw [e1]; simp)
          have HM := Aside.mk hmem
          clear hmem
          generalize s[k] = x at hU hl HT HM
          have hU2 : ∀ W, Calls Tryz.prog 75 #[.string (s.extract k (k + 1))] W fun e w' => e = .returned (.string ⟨#[Txt.up x]⟩) ∧ Below W.heap.size W w' := hU
          clear hU
          generalize Txt.up x = y at hU2 hl
          have HL := Aside.mk hl
          clear hl
          have hy0 : (⟨#[y]⟩ : ByteArray)[0]'(show 0 < 1 by decide) = y := rfl
          have hk1 : IntKind.i64.wrap ((k : Int) + 1) = (k : Int) + 1 := IntWalk.i64_in _ (by omega)
          cases b1 : decide ((y.toNat : Int) < 65) <;> cases b2 : decide ((90 : Int) < (y.toNat : Int)) <;> cases b3 : decide ((y.toNat : Int) < 48) <;> cases b4 : decide ((57 : Int) < (y.toNat : Int)) <;>
            ( go_wp2_with ((go_at_call 75; (with_reducible refine (hU2 _).mono ?_); rintro e w_ ⟨rfl, hb_⟩; replace L := Aside.mk (L.out.trans (hb_.mono L.out.size)); clear hb_))
              first
                | (go_roundw
                   case rel => exact ⟨k + 1, by omega, by go_num, by rw [HT.out, List.all_append, HA.out]; have h9 := HL.out; rw [b1, b2, b3, b4] at h9; simp [h9], L.out⟩
                   case measure => first | (simp [intOf]; done) | (simp [intOf]; omega))
                | (go_ret
                   refine ⟨?_, L.out⟩
                   have := HL.out
                   rw [b1, b2, b3, b4] at this
                   rw [HP.out, all_no HM.out (this.trans (by rfl))]
                   rfl) )
        · have hke : k = s.size := by omega
          subst hke
          have e : s.data.toList.take s.size = s.data.toList := List.take_of_length_le (by simp)
          have H2 := HA.out
          rw [e] at H2
          have H3 := Aside.mk (HP.out.trans H2)
          clear H2 e
          go_wp2
          go_ret
          exact ⟨by rw [H3.out]; rfl, L.out⟩
    · have h2 : decide ((32 : Int) < (s.size : Int)) = true := decide_eq_true (by omega)
      have HP : Aside (Pm.typed s.data.toList = false) := ⟨by unfold Pm.typed; rw [decide_eq_false (by omega)]; rfl⟩
      go_enter Tryz.func74, Tryz.ntmps74
      go_wp2
      go_ret
      exact ⟨by rw [HP.out]; rfl, Below.refl _ w⟩
  · have h1 : decide ((s.size : Int) < 1) = true := decide_eq_true (by omega)
    have HP : Aside (Pm.typed s.data.toList = false) := ⟨by unfold Pm.typed; rw [decide_eq_false (by omega)]; rfl⟩
    go_enter Tryz.func74, Tryz.ntmps74
    go_wp2
    go_ret
    exact ⟨by rw [HP.out]; rfl, Below.refl _ w⟩
end Go.Proofs.YtfffdbjfhdkheaaGreatDoor
