/-
  The law's words.
-/
import Derived.Test.YtfffdbjfhdkheaaGreatDoorQ1
import Derived.Outline
set_option linter.unusedVariables false
set_option linter.unusedSimpArgs false
namespace Go.Proofs.YtfffdbjfhdkheaaGreatDoor
open Go.RowKit Go.Shelf
set_option maxRecDepth 100000
/-- Between two rounds: these parts are taken off, the next begins at fr, no blank stands from there to k. -/
def Wst (s : ByteArray) (xs : List ByteArray) (fr k : Nat) : Prop :=
  (k = s.size + 1 ∧ xs = parts 32 s) ∨ (k ≤ s.size ∧ fr ≤ k ∧ parts 32 s = xs ++ (Tok.split 32 (s.data.toList.drop fr)).map (fun l => ⟨l.toArray⟩) ∧ 32 ∉ (s.data.toList.drop fr).take (k - fr))
theorem Wst.start (s : ByteArray) : Wst s [] 0 0 := .inr ⟨by omega, by omega, by simp [parts], by simp⟩
theorem ext_list (s : ByteArray) (a b : Nat) : s.extract a b = ⟨((s.data.toList.drop a).take (b - a)).toArray⟩ := by
  apply ByteArray.ext
  apply Array.toList_inj.1
  simp [List.extract_eq_take_drop]
theorem Wst.stay {s : ByteArray} {xs : List ByteArray} {fr k : Nat} (h : Wst s xs fr k) (hk : k < s.size) (hc : s[k] ≠ 32) : Wst s xs fr (k + 1) := by
  rcases h with ⟨e, _⟩ | ⟨h1, h2, h3, h4⟩
  · omega
  · refine .inr ⟨by omega, by omega, h3, ?_⟩
    have e : k + 1 - fr = k - fr + 1 := by omega
    have hl : k - fr < (s.data.toList.drop fr).length := by simp; have : s.size = s.data.size := rfl; omega
    rw [e, List.take_succ_eq_append_getElem hl]
    intro q
    rcases List.mem_append.1 q with q | q
    · exact h4 q
    · simp only [List.mem_singleton] at q
      apply hc
      rw [q, List.getElem_drop]
      have e2 : fr + (k - fr) = k := by omega
      simp only [e2]
      rfl
theorem Wst.part {s : ByteArray} {xs : List ByteArray} {fr k : Nat} (h : Wst s xs fr k) (hk : k < s.size) (hc : s[k] = 32) : Wst s (xs ++ [s.extract fr k]) (k + 1) (k + 1) ∧ fr ≤ k := by
  rcases h with ⟨e, _⟩ | ⟨h1, h2, h3, h4⟩
  · omega
  · refine ⟨.inr ⟨by omega, by omega, ?_, by simp⟩, h2⟩
    have hl : k < s.data.toList.length := by simpa using hk
    have e : s.data.toList.drop fr = (s.data.toList.drop fr).take (k - fr) ++ 32 :: s.data.toList.drop (k + 1) := by
      conv => lhs; rw [← List.take_append_drop (k - fr) (s.data.toList.drop fr)]
      rw [List.drop_drop, show fr + (k - fr) = k by omega, List.drop_eq_getElem_cons hl]
      have : s.data.toList[k] = 32 := by rw [← hc]; rfl
      rw [this]
    rw [h3, e, Tok.split_at _ h4, List.map_cons, ext_list]
    simp only [List.append_assoc, List.singleton_append]
theorem Wst.last {s : ByteArray} {xs : List ByteArray} {fr k : Nat} (h : Wst s xs fr k) (hk : k = s.size) : Wst s (xs ++ [s.extract fr k]) (k + 1) (k + 1) ∧ fr ≤ k := by
  rcases h with ⟨e, _⟩ | ⟨h1, h2, h3, h4⟩
  · omega
  · refine ⟨.inl ⟨by omega, ?_⟩, h2⟩
    have hl : (s.data.toList.drop fr).length = k - fr := by simp; have : s.size = s.data.size := rfl; omega
    have e : (s.data.toList.drop fr).take (k - fr) = s.data.toList.drop fr := List.take_of_length_le (by omega)
    rw [e] at h4
    rw [h3, Tok.split_no h4, ext_list, e]
    rfl
theorem Wst.fr {s : ByteArray} {xs : List ByteArray} {fr k : Nat} (h : Wst s xs fr k) (hk : k ≤ s.size) : fr ≤ k := by
  rcases h with ⟨e, _⟩ | ⟨h1, h2, h3, h4⟩
  · omega
  · exact h2
def WdRel (s : ByteArray) (w : World) (v f i : Value) (wr : World) : Prop :=
  ∃ (xs : List ByteArray) (fr k : Nat), f = .int .i64 fr ∧ i = .int .i64 k ∧ Row wr w.heap.size v xs ∧ Below w.heap.size w wr ∧ xs.length ≤ k ∧ k ≤ s.size + 1 ∧ fr ≤ s.size + 1 ∧ Wst s xs fr k
set_option maxHeartbeats 4000000 in
theorem lwords_any (s : ByteArray) (hs : s.size ≤ 100000) (w : World) : Calls Tryz.prog 18 #[.string s] w fun e w' => (∃ A c, e = .returned (.slice A (parts 32 s).length c) ∧ Strs w' A (parts 32 s)) ∧ Below w.heap.size w w' := by
  go_enter Tryz.func18, Tryz.ntmps18
  go_wp2
  go_loopw [3, 4, 5] (fun v f i wr => WdRel s w v f i wr) (fun _ _ i _ => s.size + 1 - (intOf i).toNat)
  case atStart => exact ⟨[], 0, 0, rfl, rfl, Row.nil _ _, Below.refl _ w, by simp, by omega, by omega, Wst.start s⟩
  case round =>
    obtain ⟨xs, fr, k, rfl, rfl, hrow, hlow, hxl, hks, hfs, hst⟩ := hrel
    have R := Aside.mk hrow
    have L := Aside.mk hlow
    have ST := Aside.mk hst
    clear hrow hlow hst
    by_cases hk : k ≤ s.size
    · have hfk := ST.out.fr hk
      by_cases hlt : k < s.size
      · have hne : ((k : Int) == (s.size : Int)) = false := by simp; omega
        by_cases hc : s[k] = 32
        · have P := Aside.mk (ST.out.part hlt hc).1
          have hcb : (s[k] == 32) = true := by simp [hc]
          clear ST
          go_wp2_with (first | (at_builtin; refine app_str rfl _ _ rfl w.heap.size _ xs (by rfl) (R.out.alloc _) _ (by rfl) (s.extract fr k) (heap_alloc_new _ _) (by omega) (by simp; have := L.out.size; omega) ?_; intro g cap w4 hrow4 hgrow4 _ _; have R6 := Aside.mk hrow4; have L6 := Aside.mk ((L.out.alloc L.out.size (.cells #[.string (s.extract fr k)] 9)).grown hgrow4 (by simp; have := L.out.size; omega) (fun k_ e_ => (R.out.lt k_ e_).1)); clear hrow4 hgrow4))
          go_roundw
          case rel => exact ⟨xs ++ [s.extract fr k], k + 1, k + 1, by go_num, by go_num, by simpa using R6.out, L6.out, by simp; omega, by omega, by omega, P.out⟩
          case measure => first | (simp [intOf]; done) | (simp [intOf]; omega)
        · have P := Aside.mk (ST.out.stay hlt hc)
          have hcb : (((s[k]).toNat : Int) == 32) = false := by
            have : (s[k]).toNat ≠ 32 := fun e => hc (UInt8.toNat_inj.1 e)
            simp only [beq_eq_false_iff_ne, ne_eq]
            omega
          clear ST
          go_wp2
          go_roundw
          case rel => exact ⟨xs, fr, k + 1, rfl, by go_num, R.out, L.out, by omega, by omega, by omega, P.out⟩
          case measure => first | (simp [intOf]; done) | (simp [intOf]; omega)
      · have hke : k = s.size := by omega
        subst hke
        have P := Aside.mk (ST.out.last rfl).1
        clear ST
        go_wp2_with (first | (at_builtin; refine app_str rfl _ _ rfl w.heap.size _ xs (by rfl) (R.out.alloc _) _ (by rfl) (s.extract fr s.size) (heap_alloc_new _ _) (by omega) (by simp; have := L.out.size; omega) ?_; intro g cap w4 hrow4 hgrow4 _ _; have R6 := Aside.mk hrow4; have L6 := Aside.mk ((L.out.alloc L.out.size (.cells #[.string (s.extract fr s.size)] 9)).grown hgrow4 (by simp; have := L.out.size; omega) (fun k_ e_ => (R.out.lt k_ e_).1)); clear hrow4 hgrow4))
        go_roundw
        case rel => exact ⟨xs ++ [s.extract fr s.size], s.size + 1, s.size + 1, by go_num, by go_num, by simpa using R6.out, L6.out, by simp; omega, by omega, by omega, P.out⟩
        case measure => first | (simp [intOf]; done) | (simp [intOf]; omega)
    · have hxs : xs = parts 32 s := by
        rcases ST.out with h | h
        · exact h.2
        · omega
      subst hxs
      obtain ⟨A, c, rfl, hst⟩ := R.out.form
      have S2 := Aside.mk hst
      clear hst
      go_wp2
      go_ret
      exact ⟨⟨_, _, rfl, S2.out⟩, L.out⟩
end Go.Proofs.YtfffdbjfhdkheaaGreatDoor
