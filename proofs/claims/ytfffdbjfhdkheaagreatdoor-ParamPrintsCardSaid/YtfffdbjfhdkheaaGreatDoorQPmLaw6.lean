/-
  Plain laws of the words: their order plays no part; none may be said twice.
-/
import Derived.Test.YtfffdbjfhdkheaaGreatDoorQPmLaw5
set_option linter.unusedVariables false
set_option linter.unusedSimpArgs false
namespace Go.Proofs.YtfffdbjfhdkheaaGreatDoor
open Go.RowKit Go.Shelf
set_option maxRecDepth 100000
theorem split_not (b : UInt8) (n : Nat) : ∀ l : List UInt8, l.length ≤ n → (∀ p ∈ Tok.split b l, b ∉ p) ∧ List.intercalate [b] (Tok.split b l) = l := by
  induction n with
  | zero =>
    intro l hl
    have : l = [] := List.eq_nil_of_length_eq_zero (by omega)
    subst this
    rw [Tok.split_no (by simp)]
    exact ⟨by simp, by simp [List.intercalate]⟩
  | succ n ih =>
    intro l hl
    rcases Tok.mem_or b l with h | ⟨q, r, rfl, hq⟩
    · rw [Tok.split_no h]
      exact ⟨by simpa using h, by simp [List.intercalate]⟩
    · rw [Tok.split_at r hq]
      simp at hl
      have h1 := ih r (by omega)
      refine ⟨fun p hp => ?_, ?_⟩
      · rcases List.mem_cons.1 hp with rfl | hp
        · exact hq
        · exact h1.1 p hp
      · cases hs : Tok.split b r with
        | nil => exact absurd hs (Tok.split_ne b r)
        | cons y t =>
          rw [inter_cons, ← hs, h1.2]
          simp
theorem parts_not (b : UInt8) (s : ByteArray) : ∀ w ∈ parts b s, b ∉ w.data.toList := by
  intro w hw
  unfold parts at hw
  obtain ⟨l, hl, rfl⟩ := List.mem_map.1 hw
  exact (split_not b _ _ (Nat.le_refl _)).1 l hl
theorem join_parts (b : UInt8) (s : ByteArray) : joinB (parts b s) ⟨#[b]⟩ = s := by
  unfold joinB parts Lib.join
  rw [List.map_map]
  have : ∀ l : List (List UInt8), l.map ((fun x : ByteArray => x.data.toList) ∘ fun l => (⟨l.toArray⟩ : ByteArray)) = l := fun l => by induction l <;> simp_all
  rw [this]
  show (⟨(List.intercalate [b] (Tok.split b s.data.toList)).toArray⟩ : ByteArray) = s
  rw [(split_not b _ _ (Nat.le_refl _)).2]
theorem joinB_snoc (xs : List ByteArray) (h : xs ≠ []) (w sep : ByteArray) : joinB (xs ++ [w]) sep = joinB xs sep ++ sep ++ w := by
  have hl : ∀ (ys : List (List UInt8)) (z : List UInt8) (sp : List UInt8), ys ≠ [] → List.intercalate sp (ys ++ [z]) = List.intercalate sp ys ++ sp ++ z := by
    intro ys
    induction ys with
    | nil => intro z sp h; exact absurd rfl h
    | cons y r ih =>
      intro z sp _
      cases r with
      | nil => simp [List.intercalate, List.intersperse]
      | cons y2 r =>
        have := ih z sp (by simp)
        rw [List.cons_append, List.cons_append, inter_cons, inter_cons, ← List.cons_append, this]
        simp
  unfold joinB Lib.join
  rw [List.map_append, List.map_cons, List.map_nil, hl _ _ _ (by simpa using h)]
  apply ByteArray.ext
  simp
namespace Pm
def wkey (w : ByteArray) : ByteArray := upB (cutL w 61)
def wval (w : ByteArray) : ByteArray := cutR w 61
/-- A word that may be. -/
def Wd {σ : Type} (ks : List (Key σ)) (w : ByteArray) : Prop := w.data.toList ≠ [] ∧ ∃ K, K ∈ ks ∧ findK ks (wkey w) = some K ∧ ∀ s, (K.step (wval w) s).2 = 0
/-- What it does. -/
def app {σ : Type} (ks : List (Key σ)) (s : σ) (w : ByteArray) : σ := match findK ks (wkey w) with
  | some K => (K.step (wval w) s).1
  | none => s
/-- Words' errors don't look at what is there. -/
def Free {σ : Type} (ks : List (Key σ)) : Prop := ∀ K ∈ ks, ∀ v s s', (K.step v s).2 = (K.step v s').2
theorem any_iff (seen : List ByteArray) (k : ByteArray) : seen.any (fun y => decide (y = k)) = true ↔ k ∈ seen := by
  rw [List.any_eq_true]
  constructor
  · rintro ⟨y, hy, he⟩
    have : y = k := by simpa using he
    exact this ▸ hy
  · intro h
    exact ⟨k, h, by simp⟩
theorem step_good {σ : Type} {ks : List (Key σ)} {w : ByteArray} {seen : List ByteArray} {s : σ} (h : Wd ks w) (hs : wkey w ∉ seen) : wordStep ks w seen s = ((seen ++ [wkey w], app ks s w), 0) := by
  obtain ⟨h1, K, h2, h3, h4⟩ := h
  unfold wordStep app
  have h3' : findK ks (upB (cutL w 61)) = some K := h3
  have hs' : ¬ (seen.any (fun y => decide (y = upB (cutL w 61))) = true) := fun q => hs ((any_iff _ _).1 q)
  have h5 : (K.step (cutR w 61) s).2 = 0 := h4 s
  rw [if_neg h1, h3, h3']
  dsimp only
  rw [if_neg hs', h5]
  rfl
theorem run_good {σ : Type} {ks : List (Key σ)} (hF : Free ks) : ∀ (ws seen : List ByteArray) (st x : σ), wordsRun ks ws seen st = (x, 0) →
    (∀ w ∈ ws, Wd ks w) ∧ (ws.map wkey).Nodup ∧ (∀ w ∈ ws, wkey w ∉ seen) ∧ x = ws.foldl (app ks) st ∧ ∀ rest, wordsRun ks (ws ++ rest) seen st = wordsRun ks rest (seen ++ ws.map wkey) x
  | [], seen, st, x, h => by
    have hx : st = x := by have := congrArg Prod.fst h; exact this
    subst hx
    exact ⟨by simp, by simp, by simp, rfl, fun rest => by simp⟩
  | w :: ws, seen, st, x, h => by
    unfold wordsRun at h
    by_cases h0 : (wordStep ks w seen st).2 = 0
    · rw [if_pos h0] at h
      obtain ⟨K, k1, k2, k3, k4, k5, k6⟩ := step_zero h0
      have hw : Wd ks w := ⟨k3, K, k1, k2, fun s => (hF K k1 _ s st).trans k5⟩
      have hn : wkey w ∉ seen := fun q => by
        have q' := (any_iff seen (wkey w)).2 q
        exact absurd (q'.symm.trans k4) (by decide)
      have hg := step_good (s := st) hw hn
      rw [hg] at h
      obtain ⟨r1, r2, r3, r4, r5⟩ := run_good hF ws _ _ _ h
      simp only at r3 r4 r5
      refine ⟨?_, ?_, ?_, ?_, ?_⟩
      · intro y hy
        rcases List.mem_cons.1 hy with rfl | hy
        · exact hw
        · exact r1 y hy
      · rw [List.map_cons, List.nodup_cons]
        refine ⟨fun q => ?_, r2⟩
        obtain ⟨y, hy, he⟩ := List.mem_map.1 q
        exact r3 y hy (by rw [he]; simp)
      · intro y hy
        rcases List.mem_cons.1 hy with rfl | hy
        · exact hn
        · exact fun q => r3 y hy (List.mem_append_left _ q)
      · rw [List.foldl_cons]; exact r4
      · intro rest
        rw [List.cons_append]
        conv => lhs; unfold wordsRun
        rw [hg, if_pos rfl, r5 rest]
        simp
    · rw [if_neg h0] at h
      exact absurd (congrArg Prod.snd h) h0
theorem good_run {σ : Type} {ks : List (Key σ)} : ∀ (ws seen : List ByteArray) (st : σ), (∀ w ∈ ws, Wd ks w) → (ws.map wkey).Nodup → (∀ w ∈ ws, wkey w ∉ seen) → wordsRun ks ws seen st = (ws.foldl (app ks) st, 0)
  | [], _, _, _, _, _ => rfl
  | w :: ws, seen, st, h1, h2, h3 => by
    have hg := step_good (s := st) (h1 w (by simp)) (h3 w (by simp))
    rw [List.map_cons, List.nodup_cons] at h2
    conv => lhs; unfold wordsRun
    rw [hg, if_pos rfl, good_run ws _ _ (fun y hy => h1 y (List.mem_cons_of_mem _ hy)) h2.2 ?_, List.foldl_cons]
    intro y hy q
    rcases List.mem_append.1 q with q | q
    · exact h3 y (List.mem_cons_of_mem _ hy) q
    · simp at q
      exact h2.1 (List.mem_map.2 ⟨y, hy, q⟩)
/-- Words of unlike keys may change places. -/
def Apart {σ : Type} (ks : List (Key σ)) : Prop := ∀ w w' : ByteArray, wkey w ≠ wkey w' → ∀ s, app ks (app ks s w) w' = app ks (app ks s w') w
theorem foldl_out {σ : Type} {ks : List (Key σ)} (hA : Apart ks) : ∀ (ws : List ByteArray) (w : ByteArray) (st : σ), (∀ y ∈ ws, wkey y ≠ wkey w) → app ks (ws.foldl (app ks) st) w = ws.foldl (app ks) (app ks st w)
  | [], _, _, _ => rfl
  | y :: ws, w, st, h => by
    rw [List.foldl_cons, List.foldl_cons, foldl_out hA ws w _ (fun z hz => h z (List.mem_cons_of_mem _ hz)), hA y w (h y (by simp))]
theorem foldl_back {σ : Type} {ks : List (Key σ)} (hA : Apart ks) : ∀ (ws : List ByteArray) (st : σ), (ws.map wkey).Nodup → ws.reverse.foldl (app ks) st = ws.foldl (app ks) st
  | [], _, _ => rfl
  | w :: ws, st, h => by
    rw [List.map_cons, List.nodup_cons] at h
    rw [List.reverse_cons, List.foldl_append, foldl_back hA ws st h.2]
    show app ks (ws.foldl (app ks) st) w = _
    rw [foldl_out hA ws w st (fun y hy q => h.1 (List.mem_map.2 ⟨y, hy, q⟩))]
    rfl
theorem run_back {σ : Type} {ks : List (Key σ)} (hF : Free ks) (hA : Apart ks) (ws : List ByteArray) (st x : σ) (h : wordsRun ks ws [] st = (x, 0)) : wordsRun ks ws.reverse [] st = (x, 0) := by
  obtain ⟨r1, r2, _, r4, _⟩ := run_good hF ws [] st x h
  rw [good_run ws.reverse [] st (fun w hw => r1 w (by simpa using hw)) (by rw [List.map_reverse]; exact List.pairwise_reverse.2 (r2.imp Ne.symm)) (by simp), foldl_back hA ws st r2, r4]
theorem run_twice {σ : Type} {ks : List (Key σ)} (hF : Free ks) (ws : List ByteArray) (st x : σ) (h : wordsRun ks ws [] st = (x, 0)) (w : ByteArray) (hw : w ∈ ws) : (wordsRun ks (ws ++ [w]) [] st).2 = 11 := by
  obtain ⟨r1, _, _, _, r5⟩ := run_good hF ws [] st x h
  rw [r5 [w], List.nil_append]
  obtain ⟨h1, K, h2, h3, h4⟩ := r1 w hw
  have hs : wordStep ks w (ws.map wkey) x = ((ws.map wkey, x), 11) := by
    unfold wordStep
    have h3' : findK ks (upB (cutL w 61)) = some K := h3
    have hs' : ((ws.map wkey).any (fun y => decide (y = upB (cutL w 61)))) = true := (any_iff _ _).2 (List.mem_map.2 ⟨w, hw, rfl⟩)
    rw [if_neg h1, h3']
    dsimp only
    rw [if_pos hs']
  unfold wordsRun
  rw [hs]
  simp
theorem all_back {σ : Type} {ks : List (Key σ)} (hF : Free ks) (hA : Apart ks) (t : ByteArray) (ht : t.data.toList ≠ []) (st x : σ) (h : wordsAll ks t st = (x, 0)) : wordsAll ks (joinB (parts 32 t).reverse ⟨#[32]⟩) st = (x, 0) := by
  unfold wordsAll at h ⊢
  rw [if_neg ht] at h
  have hb := run_back hF hA _ _ _ h
  have hg := (run_good hF _ _ _ _ h).1
  have hne : (parts 32 t).reverse ≠ [] := by simpa using parts_ne 32 t
  rw [if_neg (joinB_ne _ _ hne (fun w hw => (hg w (by simpa using hw)).1)), parts_join 32 _ hne (fun w hw => parts_not 32 t w (by simpa using hw))]
  exact hb
theorem all_twice {σ : Type} {ks : List (Key σ)} (hF : Free ks) (t : ByteArray) (ht : t.data.toList ≠ []) (st x : σ) (h : wordsAll ks t st = (x, 0)) (w : ByteArray) (hw : w ∈ parts 32 t) : (wordsAll ks (t ++ ⟨#[32]⟩ ++ w) st).2 = 11 := by
  have e : t ++ ⟨#[32]⟩ ++ w = joinB (parts 32 t ++ [w]) ⟨#[32]⟩ := by rw [joinB_snoc _ (parts_ne 32 t), join_parts]
  have hp : parts 32 (t ++ ⟨#[32]⟩ ++ w) = parts 32 t ++ [w] := by
    rw [e]
    refine parts_join 32 _ (by simp) (fun y hy => ?_)
    rcases List.mem_append.1 hy with hy | hy
    · exact parts_not 32 t y hy
    · simp at hy; subst hy; exact parts_not 32 t y hw
  unfold wordsAll at h ⊢
  rw [if_neg ht] at h
  rw [if_neg (by simp [ht]), hp]
  exact run_twice hF _ _ _ h w hw
theorem mail_free : Free mailPlain := by
  intro K hK v s s'
  simp only [mailPlain, List.mem_cons, List.not_mem_nil, or_false] at hK
  rcases hK with rfl | rfl | rfl | rfl | rfl | rfl | rfl | rfl
  · rfl
  · rfl
  · rfl
  · rfl
  · rfl
  · show (stUntil v s).2 = (stUntil v s').2
    unfold stUntil
    rfl
  · show (stBy v s).2 = (stBy v s').2
    unfold stBy
    split <;> rfl
  · rfl
theorem rcpt_free : Free rcptPlain := by
  intro K hK v s s'
  simp only [rcptPlain, List.mem_cons, List.not_mem_nil, or_false] at hK
  rcases hK with rfl | rfl
  · rfl
  · show (stOc v s).2 = (stOc v s').2
    unfold stOc
    split <;> rfl
theorem find_key {σ : Type} {ks : List (Key σ)} {k : ByteArray} {K : Key σ} (h : findK ks k = some K) : K ∈ ks ∧ K.key = k := by
  refine ⟨List.mem_of_find?_eq_some h, ?_⟩
  have := List.find?_some h
  simpa using this
theorem apart_of {σ : Type} {ks : List (Key σ)} (h : ∀ K ∈ ks, ∀ K' ∈ ks, K.key ≠ K'.key → ∀ v v' s, (K'.step v' (K.step v s).1).1 = (K.step v (K'.step v' s).1).1) : Apart ks := by
  intro w w' hne s
  unfold app
  cases h1 : findK ks (wkey w) with
  | none => cases h2 : findK ks (wkey w') <;> rfl
  | some K =>
    cases h2 : findK ks (wkey w') with
    | none => rfl
    | some K' =>
      obtain ⟨a1, a2⟩ := find_key h1
      obtain ⟨b1, b2⟩ := find_key h2
      exact h K a1 K' b1 (by rw [a2, b2]; exact hne) _ _ _
theorem by_form (v : ByteArray) (m : Ml) : (stBy v m).1 = if (byMode v).2 ≠ 0 then { m with hB := true } else { m with hB := true, mode := (byMode v).1, b := (byN v).1 } := by
  unfold stBy
  split <;> rfl
theorem oc_form (v : ByteArray) (r : Rc) : (stOc v r).1 = if typed (Lib.cut v.data.toList [59]).1 = false then r else { r with kd := ⟨(Txt.upper (Lib.cut v.data.toList [59]).1).toArray⟩, oc := ⟨(decoded (Lib.cut v.data.toList [59]).2.1 256).1.toArray⟩ } := by
  unfold stOc
  split <;> rfl
/-- What an 'until' sets. -/
def untilV (v : ByteArray) := (DtCal.parse (Txt.upper v.data.toList)).1
theorem until_form (v : ByteArray) (m : Ml) : (stUntil v m).1 = { m with hU := true, u := untilV v } := by
  unfold stUntil untilV
  rfl
attribute [irreducible] untilV
theorem size_form (v : ByteArray) (m : Ml) : (stSize v m).1 = { m with hS := true, s := (Txt.number v.data.toList).1 } := rfl
theorem body_form (v : ByteArray) (m : Ml) : (stBody v m).1 = { m with body := (name v [n7, n8]).1 } := rfl
theorem ret_form (v : ByteArray) (m : Ml) : (stRet v m).1 = { m with ret := (name v [nFull, nHdrs]).1 } := rfl
theorem envid_form (v : ByteArray) (m : Ml) : (stEnvid v m).1 = { m with envid := ⟨(decoded v.data.toList 100).1.toArray⟩ } := rfl
theorem for_form (v : ByteArray) (m : Ml) : (stFor v m).1 = { m with hF := true, f := (forN v).1 } := rfl
theorem pri_form (v : ByteArray) (m : Ml) : (stPri v m).1 = { m with hP := true, p := (priN v).1 } := rfl
theorem mail_apart : Apart mailPlain := by
  apply apart_of
  intro K hK K' hK' hne v v' s
  simp only [mailPlain, List.mem_cons, List.not_mem_nil, or_false] at hK hK'
  rcases hK with rfl | rfl | rfl | rfl | rfl | rfl | rfl | rfl <;> rcases hK' with rfl | rfl | rfl | rfl | rfl | rfl | rfl | rfl <;>
    first
      | exact absurd rfl hne
      | (dsimp only; simp only [by_form, until_form, size_form, body_form, ret_form, envid_form, for_form, pri_form]; done)
      | (dsimp only; simp only [by_form, until_form, size_form, body_form, ret_form, envid_form, for_form, pri_form]; split <;> rfl)
theorem rcpt_apart : Apart rcptPlain := by
  apply apart_of
  intro K hK K' hK' hne v v' s
  have ho := oc_form
  simp only [rcptPlain, List.mem_cons, List.not_mem_nil, or_false] at hK hK'
  rcases hK with rfl | rfl <;> rcases hK' with rfl | rfl <;>
    first
      | exact absurd rfl hne
      | (simp only [ho]; (try split) <;> rfl)
/-- Turned round a text tells the same. -/
theorem mail_turned (t : ByteArray) (ht : t.data.toList ≠ []) (h : (parseMail t).2 = 0) : parseMail (joinB (parts 32 t).reverse ⟨#[32]⟩) = parseMail t := by
  have h0 : (wordsAll mailPlain t Ml.zero).2 = 0 := by
    unfold parseMail at h
    split at h
    · rename_i hn; exact absurd h hn
    · rename_i hn; simpa using hn
  have hx : wordsAll mailPlain t Ml.zero = ((wordsAll mailPlain t Ml.zero).1, 0) := by rw [← h0]
  have hb := all_back mail_free mail_apart t ht _ _ hx
  unfold parseMail
  rw [hb, ← hx]
theorem rcpt_turned (t : ByteArray) (ht : t.data.toList ≠ []) (h : (parseRcpt t).2 = 0) : parseRcpt (joinB (parts 32 t).reverse ⟨#[32]⟩) = parseRcpt t := by
  have h0 : (wordsAll rcptPlain t Rc.zero).2 = 0 := by
    unfold parseRcpt at h
    split at h
    · rename_i hn; exact absurd h hn
    · rename_i hn; simpa using hn
  have hx : wordsAll rcptPlain t Rc.zero = ((wordsAll rcptPlain t Rc.zero).1, 0) := by rw [← h0]
  have hb := all_back rcpt_free rcpt_apart t ht _ _ hx
  unfold parseRcpt
  rw [hb, ← hx]
/-- With a word said twice it tells none. -/
theorem mail_twice (t : ByteArray) (ht : t.data.toList ≠ []) (h : (parseMail t).2 = 0) (w : ByteArray) (hw : w ∈ parts 32 t) : (parseMail (t ++ ⟨#[32]⟩ ++ w)).2 = 11 := by
  have h0 : (wordsAll mailPlain t Ml.zero).2 = 0 := by
    unfold parseMail at h
    split at h
    · rename_i hn; exact absurd h hn
    · rename_i hn; simpa using hn
  have hx : wordsAll mailPlain t Ml.zero = ((wordsAll mailPlain t Ml.zero).1, 0) := by rw [← h0]
  have hb := all_twice mail_free t ht _ _ hx w hw
  unfold parseMail
  rw [if_pos (by rw [hb]; decide), hb]
theorem rcpt_twice (t : ByteArray) (ht : t.data.toList ≠ []) (h : (parseRcpt t).2 = 0) (w : ByteArray) (hw : w ∈ parts 32 t) : (parseRcpt (t ++ ⟨#[32]⟩ ++ w)).2 = 11 := by
  have h0 : (wordsAll rcptPlain t Rc.zero).2 = 0 := by
    unfold parseRcpt at h
    split at h
    · rename_i hn; exact absurd h hn
    · rename_i hn; simpa using hn
  have hx : wordsAll rcptPlain t Rc.zero = ((wordsAll rcptPlain t Rc.zero).1, 0) := by rw [← h0]
  have hb := all_twice rcpt_free t ht _ _ hx w hw
  unfold parseRcpt
  rw [if_pos (by rw [hb]; decide), hb]
end Pm
end Go.Proofs.YtfffdbjfhdkheaaGreatDoor
