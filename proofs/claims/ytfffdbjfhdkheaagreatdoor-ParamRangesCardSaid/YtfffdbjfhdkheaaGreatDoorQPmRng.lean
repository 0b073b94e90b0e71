/-
  ParamRanges: its walk.
-/
import Derived.Test.YtfffdbjfhdkheaaGreatDoorQ4
import Derived.Test.YtfffdbjfhdkheaaGreatDoorQPmAw
import Derived.Test.YtfffdbjfhdkheaaGreatDoorQ1
set_option linter.unusedVariables false
set_option linter.unusedSimpArgs false
namespace Go.Proofs.YtfffdbjfhdkheaaGreatDoor
open Go.RowKit Go.Shelf Pm
set_option maxRecDepth 100000
namespace Pm
/-- What is parsed of one word. -/
theorem parse_one (k v : List UInt8) (h1 : 61 ∉ k) (h2 : 32 ∉ k ++ 61 :: v) (K : Key Ml) (hf : findK mailPlain ⟨(Txt.upper k).toArray⟩ = some K) (hFU : (K.step ⟨v.toArray⟩ Ml.zero).1.hF = false ∨ (K.step ⟨v.toArray⟩ Ml.zero).1.hU = false) :
    parseMail ⟨(k ++ 61 :: v).toArray⟩ = if (K.step ⟨v.toArray⟩ Ml.zero).2 ≠ 0 then (Ml.zero, (K.step ⟨v.toArray⟩ Ml.zero).2) else ((K.step ⟨v.toArray⟩ Ml.zero).1, 0) := by
  unfold parseMail
  rw [one_word mailPlain k v h1 h2 K hf]
  split
  · rfl
  · rw [if_neg (by rcases hFU with h | h <;> rw [h] <;> simp)]
theorem txt_join (p : List UInt8) (q : Array UInt8) (v : List UInt8) (hq : q.toList = p) (s : ByteArray) (hs : s = ⟨v.toArray⟩) : (⟨(p ++ v).toArray⟩ : ByteArray) = ⟨q⟩ ++ s := by
  subst hs hq
  apply ByteArray.ext
  apply Array.ext'
  simp
theorem small1 (a b : ByteArray) (ha : a.size ≤ 20) (hb : b.size ≤ 21) : (a ++ b).size ≤ 100000000 := by rw [ByteArray.size_append]; omega
theorem small2 (a b c : ByteArray) (ha : a.size ≤ 20) (hb : b.size ≤ 21) (hc : c.size ≤ 20) : (a ++ b ++ c).size ≤ 100000000 := by rw [ByteArray.size_append, ByteArray.size_append]; omega
theorem no32 (k : List UInt8) (hk : 32 ∉ k) (n : Int) (t : List UInt8) (ht : 32 ∉ t) : 32 ∉ k ++ 61 :: (Lib.itoa n ++ t) := by
  simp only [List.mem_append, List.mem_cons, not_or]
  exact ⟨hk, by decide, Txt.itoa_not n 32 (by decide) (by decide), ht⟩
theorem pr_for (n : Int) (s : ByteArray) (hs : s = ⟨(Lib.itoa n).toArray⟩) (h0 : -999999999 ≤ n) (h1 : n ≤ 999999999) : parseMail (⟨#[72, 79, 76, 68, 70, 79, 82, 61]⟩ ++ s) = if n < 0 then (Ml.zero, 2) else if n < 1 ∨ 1048576 < n then (Ml.zero, 1) else ({ Ml.zero with hF := true, f := n }, 0) := by
  rw [← txt_join [72, 79, 76, 68, 70, 79, 82, 61] #[72, 79, 76, 68, 70, 79, 82, 61] (Lib.itoa n) rfl s hs]
  have h := parse_one [72, 79, 76, 68, 70, 79, 82] (Lib.itoa n) (by decide) (by have := no32 [72, 79, 76, 68, 70, 79, 82] (by decide) n [] (by simp); rwa [List.append_nil] at this) ⟨⟨#[72, 79, 76, 68, 70, 79, 82]⟩, 0, #[], stFor⟩ (by rfl) (.inr rfl)
  rw [show [72, 79, 76, 68, 70, 79, 82, 61] ++ Lib.itoa n = [72, 79, 76, 68, 70, 79, 82] ++ 61 :: Lib.itoa n from rfl, h]
  clear h
  show (if (forN ⟨(Lib.itoa n).toArray⟩).2 ≠ 0 then (Ml.zero, (forN ⟨(Lib.itoa n).toArray⟩).2) else ({ Ml.zero with hF := true, f := (forN ⟨(Lib.itoa n).toArray⟩).1 }, 0)) = _
  unfold forN within
  rw [show (⟨(Lib.itoa n).toArray⟩ : ByteArray).data.toList = Lib.itoa n from rfl]
  by_cases hn : n < 0
  · rw [Txt.number_neg n hn, if_pos hn]
    rfl
  · rw [Txt.number_itoa n (by omega) h1, if_neg hn]
    simp only
    by_cases hr : n < 1 ∨ 1048576 < n
    · simp [hr]
    · simp [hr]
theorem pr_pri (n : Int) (s : ByteArray) (hs : s = ⟨(Lib.itoa n).toArray⟩) (h0 : -999999999 ≤ n) (h1 : n ≤ 999999999) : parseMail (⟨#[77, 84, 45, 80, 82, 73, 79, 82, 73, 84, 89, 61]⟩ ++ s) = if n < -9 ∨ 9 < n then (Ml.zero, 1) else ({ Ml.zero with hP := true, p := n }, 0) := by
  rw [← txt_join [77, 84, 45, 80, 82, 73, 79, 82, 73, 84, 89, 61] #[77, 84, 45, 80, 82, 73, 79, 82, 73, 84, 89, 61] (Lib.itoa n) rfl s hs]
  have h := parse_one [77, 84, 45, 80, 82, 73, 79, 82, 73, 84, 89] (Lib.itoa n) (by decide) (by have := no32 [77, 84, 45, 80, 82, 73, 79, 82, 73, 84, 89] (by decide) n [] (by simp); rwa [List.append_nil] at this) ⟨⟨#[77, 84, 45, 80, 82, 73, 79, 82, 73, 84, 89]⟩, 0, #[], stPri⟩ (by rfl) (.inr rfl)
  rw [show [77, 84, 45, 80, 82, 73, 79, 82, 73, 84, 89, 61] ++ Lib.itoa n = [77, 84, 45, 80, 82, 73, 79, 82, 73, 84, 89] ++ 61 :: Lib.itoa n from rfl, h]
  clear h
  show (if (priN ⟨(Lib.itoa n).toArray⟩).2 ≠ 0 then (Ml.zero, (priN ⟨(Lib.itoa n).toArray⟩).2) else ({ Ml.zero with hP := true, p := (priN ⟨(Lib.itoa n).toArray⟩).1 }, 0)) = _
  unfold priN within
  rw [show (⟨(Lib.itoa n).toArray⟩ : ByteArray).data.toList = Lib.itoa n from rfl, signed_itoa n h0 h1]
  simp only
  by_cases hr : n < -9 ∨ 9 < n
  · simp [hr]
  · simp [hr]
theorem pr_size (n : Int) (s : ByteArray) (hs : s = ⟨(Lib.itoa n).toArray⟩) (h0 : -999999999 ≤ n) (h1 : n ≤ 999999999) : parseMail (⟨#[83, 73, 90, 69, 61]⟩ ++ s) = if n < 0 then (Ml.zero, 2) else ({ Ml.zero with hS := true, s := n }, 0) := by
  rw [← txt_join [83, 73, 90, 69, 61] #[83, 73, 90, 69, 61] (Lib.itoa n) rfl s hs]
  have h := parse_one [83, 73, 90, 69] (Lib.itoa n) (by decide) (by have := no32 [83, 73, 90, 69] (by decide) n [] (by simp); rwa [List.append_nil] at this) ⟨⟨#[83, 73, 90, 69]⟩, 0, #[], stSize⟩ (by rfl) (.inr rfl)
  rw [show [83, 73, 90, 69, 61] ++ Lib.itoa n = [83, 73, 90, 69] ++ 61 :: Lib.itoa n from rfl, h]
  clear h
  show (if (Txt.number (Lib.itoa n)).2 ≠ 0 then (Ml.zero, (Txt.number (Lib.itoa n)).2) else ({ Ml.zero with hS := true, s := (Txt.number (Lib.itoa n)).1 }, 0)) = _
  by_cases hn : n < 0
  · rw [Txt.number_neg n hn, if_pos hn]
    rfl
  · rw [Txt.number_itoa n (by omega) h1, if_neg hn]
    rfl
theorem pr_by (n : Int) (s : ByteArray) (hs : s = ⟨(Lib.itoa n).toArray⟩) (h0 : -999999999 ≤ n) (h1 : n ≤ 999999999) (c : UInt8) (hc : c = 82 ∨ c = 78) (lo : Int) (hlo : lo = if c = 82 then 1 else -999999999) : parseMail (⟨#[66, 89, 61]⟩ ++ s ++ ⟨#[59, c]⟩) = if n < lo then (Ml.zero, 1) else ({ Ml.zero with hB := true, b := n, mode := ⟨#[c]⟩ }, 0) := by
  have e1 : (⟨#[66, 89, 61]⟩ ++ s ++ ⟨#[59, c]⟩ : ByteArray) = ⟨([66, 89] ++ 61 :: (Lib.itoa n ++ [59, c])).toArray⟩ := by
    subst hs
    apply ByteArray.ext
    apply Array.ext'
    simp
  have hne : c ≠ 32 := by rcases hc with rfl | rfl <;> decide
  rw [e1]
  have hcut : Lib.cut (Lib.itoa n ++ [59, c]) [59] = (Lib.itoa n, [c], true) := by
    rw [Tok.cut_eq]
    exact Tok.cut_at _ (Txt.itoa_not n 59 (by decide) (by decide))
  have hby : byMode ⟨(Lib.itoa n ++ [59, c]).toArray⟩ = (⟨#[c]⟩, 0) := by
    unfold byMode
    rw [show (⟨(Lib.itoa n ++ [59, c]).toArray⟩ : ByteArray).data.toList = Lib.itoa n ++ [59, c] from rfl, hcut]
    rcases hc with rfl | rfl <;> rfl
  have hbn : byN ⟨(Lib.itoa n ++ [59, c]).toArray⟩ = if n < lo then (0, 1) else (n, 0) := by
    unfold byN
    rw [hby, show (⟨(Lib.itoa n ++ [59, c]).toArray⟩ : ByteArray).data.toList = Lib.itoa n ++ [59, c] from rfl, hcut]
    simp only
    rw [signed_itoa n h0 h1]
    have hl : byLeast ⟨#[c]⟩ = lo := by rw [hlo]; rcases hc with rfl | rfl <;> rfl
    rw [hl]
    unfold within
    simp only
    by_cases hr : n < lo
    · simp [hr]
    · rw [if_neg (by simp), if_neg (by omega), if_neg hr]
  have hst : stBy ⟨(Lib.itoa n ++ [59, c]).toArray⟩ Ml.zero = ({ Ml.zero with hB := true, mode := ⟨#[c]⟩, b := (if n < lo then ((0 : Int), (1 : Int)) else (n, 0)).1 }, (if n < lo then ((0 : Int), (1 : Int)) else (n, 0)).2) := by
    unfold stBy
    rw [hby, hbn]
    rfl
  have h := parse_one [66, 89] (Lib.itoa n ++ [59, c]) (by decide) (no32 [66, 89] (by decide) n [59, c] (by simp [hne.symm])) ⟨⟨#[66, 89]⟩, 0, #[], stBy⟩ (by rfl) (by dsimp only; rw [hst]; exact .inr rfl)
  rw [h]
  simp only
  rw [hst]
  by_cases hr : n < lo
  · simp [hr]
  · simp [hr]
end Pm
set_option maxHeartbeats 16000000 in
theorem rng_c1 (n : Int) (h0 : -999999999 ≤ n) (h1 : n ≤ 999999999) (hn : n < -9) (w : World) (hl : Lv w) : Calls Tryz.prog 6 #[.int .i64 n] w fun e w' => e = .returned (.bool true) ∧ Below w.heap.size w w' := by
  have haw := fun W (hW : Lv W) => awake_any W hW
  have hdg := fun W => digits_all n (by omega) (by omega) W
  have hdl := Lib.itoa_length_le n (by omega) (by omega)
  obtain ⟨s, hs⟩ : ∃ s : ByteArray, (⟨(Lib.itoa n).toArray⟩ : ByteArray) = s := ⟨_, rfl⟩
  have hsz : s.size ≤ 21 := by rw [← hs]; exact hdl
  rw [hs] at hdg
  clear hdl
  have p0 : ∀ W, Lv W → Calls Tryz.prog 16 #[.string (⟨#[72, 79, 76, 68, 70, 79, 82, 61]⟩ ++ s)] W fun e w' => e = .returned (.tuple #[.agg #[.bool false, .bool false, .bool false, .bool false, .bool false, .int .i64 0, .int .i64 0, .int .i64 0, .int .i64 0, .int .i64 0, .string ⟨#[]⟩, .string ⟨#[]⟩, .string ⟨#[]⟩, .string ⟨#[]⟩], .int .i64 2]) ∧ Below W.heap.size W w' := by
    intro W hW
    have h := parseMail_any (⟨#[72, 79, 76, 68, 70, 79, 82, 61]⟩ ++ s) (small1 _ _ (by decide) hsz) W hW
    rw [pr_for n s hs.symm (by omega) (by omega)] at h
    rw [if_pos (by omega)] at h
    exact h
  have p1 : ∀ W, Lv W → Calls Tryz.prog 16 #[.string (⟨#[77, 84, 45, 80, 82, 73, 79, 82, 73, 84, 89, 61]⟩ ++ s)] W fun e w' => e = .returned (.tuple #[.agg #[.bool false, .bool false, .bool false, .bool false, .bool false, .int .i64 0, .int .i64 0, .int .i64 0, .int .i64 0, .int .i64 0, .string ⟨#[]⟩, .string ⟨#[]⟩, .string ⟨#[]⟩, .string ⟨#[]⟩], .int .i64 1]) ∧ Below W.heap.size W w' := by
    intro W hW
    have h := parseMail_any (⟨#[77, 84, 45, 80, 82, 73, 79, 82, 73, 84, 89, 61]⟩ ++ s) (small1 _ _ (by decide) hsz) W hW
    rw [pr_pri n s hs.symm (by omega) (by omega)] at h
    rw [if_pos (by omega)] at h
    exact h
  have p2 : ∀ W, Lv W → Calls Tryz.prog 16 #[.string (⟨#[66, 89, 61]⟩ ++ s ++ ⟨#[59, 82]⟩)] W fun e w' => e = .returned (.tuple #[.agg #[.bool false, .bool false, .bool false, .bool false, .bool false, .int .i64 0, .int .i64 0, .int .i64 0, .int .i64 0, .int .i64 0, .string ⟨#[]⟩, .string ⟨#[]⟩, .string ⟨#[]⟩, .string ⟨#[]⟩], .int .i64 1]) ∧ Below W.heap.size W w' := by
    intro W hW
    have h := parseMail_any (⟨#[66, 89, 61]⟩ ++ s ++ ⟨#[59, 82]⟩) (small2 _ _ _ (by decide) hsz (by decide)) W hW
    rw [pr_by n s hs.symm (by omega) (by omega) 82 (.inl rfl) 1 rfl] at h
    rw [if_pos (by omega)] at h
    exact h
  have p3 : ∀ W, Lv W → Calls Tryz.prog 16 #[.string (⟨#[66, 89, 61]⟩ ++ s ++ ⟨#[59, 78]⟩)] W fun e w' => e = .returned (.tuple #[.agg #[.bool false, .bool false, .bool false, .bool true, .bool false, .int .i64 0, .int .i64 0, .int .i64 0, .int .i64 n, .int .i64 0, .string ⟨#[]⟩, .string ⟨#[]⟩, .string ⟨#[]⟩, .string ⟨#[78]⟩], .int .i64 0]) ∧ Below W.heap.size W w' := by
    intro W hW
    have h := parseMail_any (⟨#[66, 89, 61]⟩ ++ s ++ ⟨#[59, 78]⟩) (small2 _ _ _ (by decide) hsz (by decide)) W hW
    rw [pr_by n s hs.symm (by omega) (by omega) 78 (.inr rfl) (-999999999) rfl] at h
    rw [if_neg (by omega)] at h
    exact h
  have p4 : ∀ W, Lv W → Calls Tryz.prog 16 #[.string (⟨#[83, 73, 90, 69, 61]⟩ ++ s)] W fun e w' => e = .returned (.tuple #[.agg #[.bool false, .bool false, .bool false, .bool false, .bool false, .int .i64 0, .int .i64 0, .int .i64 0, .int .i64 0, .int .i64 0, .string ⟨#[]⟩, .string ⟨#[]⟩, .string ⟨#[]⟩, .string ⟨#[]⟩], .int .i64 2]) ∧ Below W.heap.size W w' := by
    intro W hW
    have h := parseMail_any (⟨#[83, 73, 90, 69, 61]⟩ ++ s) (small1 _ _ (by decide) hsz) W hW
    rw [pr_size n s hs.symm (by omega) (by omega)] at h
    rw [if_pos (by omega)] at h
    exact h
  have g1 : ¬ 9223372036854775807 < 8 + s.size := by omega
  have g2 : ¬ 9223372036854775807 < 12 + s.size := by omega
  have g3 : ¬ 9223372036854775807 < 3 + s.size := by omega
  have g4 : ¬ 9223372036854775807 < 3 + s.size + 2 := by omega
  have g5 : ¬ 9223372036854775807 < 5 + s.size := by omega
  clear hs
  have L : Aside (Below w.heap.size w w) := ⟨Below.refl _ _⟩
  go_enter Tryz.func6, Tryz.ntmps6
  go_wp2_with (first | (go_at_call 7; (with_reducible refine (haw _ hl).mono ?_); rintro e w_ ⟨rfl, hb_⟩; replace L := Aside.mk ((by first | exact L.out | exact L.out.alloc L.out.size _ : Below w.heap.size w _).trans (hb_.mono (by first | exact L.out.size | (simp; have := L.out.size; omega)))); clear hb_) | (go_at_call 19; (with_reducible refine (hdg _).mono ?_); rintro e w_ ⟨rfl, hb_⟩; replace L := Aside.mk ((by first | exact L.out | exact L.out.alloc L.out.size _ : Below w.heap.size w _).trans (hb_.mono (by first | exact L.out.size | (simp; have := L.out.size; omega)))); clear hb_) | (go_at_call 16; (with_reducible refine (p0 _ (hl.next (by first | exact L.out | exact L.out.alloc L.out.size _))).mono ?_); rintro e w_ ⟨rfl, hb_⟩; replace L := Aside.mk ((by first | exact L.out | exact L.out.alloc L.out.size _ : Below w.heap.size w _).trans (hb_.mono (by first | exact L.out.size | (simp; have := L.out.size; omega)))); obtain ⟨b0, hn0⟩ : ∃ b, w_.heap.size = b := ⟨_, rfl⟩; clear hb_) | (go_at_call 16; (with_reducible refine (p1 _ (hl.next (by first | exact L.out | exact L.out.alloc L.out.size _))).mono ?_); rintro e w_ ⟨rfl, hb_⟩; replace L := Aside.mk ((by first | exact L.out | exact L.out.alloc L.out.size _ : Below w.heap.size w _).trans (hb_.mono (by first | exact L.out.size | (simp; have := L.out.size; omega)))); have M0 := Aside.mk (blk_named hb_ b0 hn0); clear hn0; obtain ⟨b1, hn1⟩ : ∃ b, w_.heap.size = b := ⟨_, rfl⟩; clear hb_) | (go_at_call 16; (with_reducible refine (p2 _ (hl.next (by first | exact L.out | exact L.out.alloc L.out.size _))).mono ?_); rintro e w_ ⟨rfl, hb_⟩; replace L := Aside.mk ((by first | exact L.out | exact L.out.alloc L.out.size _ : Below w.heap.size w _).trans (hb_.mono (by first | exact L.out.size | (simp; have := L.out.size; omega)))); replace M0 := Aside.mk ((by first | exact M0.out | exact M0.out.old _ : Blk _ b0 #[.bool false, .bool false, .bool false, .bool false, .bool false, .int .i64 0, .int .i64 0, .int .i64 0, .int .i64 0, .int .i64 0, .string ⟨#[]⟩, .string ⟨#[]⟩, .string ⟨#[]⟩, .string ⟨#[]⟩] 25).below hb_); have M1 := Aside.mk (blk_named hb_ b1 hn1); clear hn1; obtain ⟨b2, hn2⟩ : ∃ b, w_.heap.size = b := ⟨_, rfl⟩; clear hb_) | (go_at_call 16; (with_reducible refine (p3 _ (hl.next (by first | exact L.out | exact L.out.alloc L.out.size _))).mono ?_); rintro e w_ ⟨rfl, hb_⟩; replace L := Aside.mk ((by first | exact L.out | exact L.out.alloc L.out.size _ : Below w.heap.size w _).trans (hb_.mono (by first | exact L.out.size | (simp; have := L.out.size; omega)))); replace M0 := Aside.mk ((by first | exact M0.out | exact M0.out.old _ : Blk _ b0 #[.bool false, .bool false, .bool false, .bool false, .bool false, .int .i64 0, .int .i64 0, .int .i64 0, .int .i64 0, .int .i64 0, .string ⟨#[]⟩, .string ⟨#[]⟩, .string ⟨#[]⟩, .string ⟨#[]⟩] 25).below hb_); replace M1 := Aside.mk ((by first | exact M1.out | exact M1.out.old _ : Blk _ b1 #[.bool false, .bool false, .bool false, .bool false, .bool false, .int .i64 0, .int .i64 0, .int .i64 0, .int .i64 0, .int .i64 0, .string ⟨#[]⟩, .string ⟨#[]⟩, .string ⟨#[]⟩, .string ⟨#[]⟩] 25).below hb_); have M2 := Aside.mk (blk_named hb_ b2 hn2); clear hn2; obtain ⟨b3, hn3⟩ : ∃ b, w_.heap.size = b := ⟨_, rfl⟩; clear hb_) | (go_at_call 16; (with_reducible refine (p4 _ (hl.next (by first | exact L.out | exact L.out.alloc L.out.size _))).mono ?_); rintro e w_ ⟨rfl, hb_⟩; replace L := Aside.mk ((by first | exact L.out | exact L.out.alloc L.out.size _ : Below w.heap.size w _).trans (hb_.mono (by first | exact L.out.size | (simp; have := L.out.size; omega)))); replace M0 := Aside.mk ((by first | exact M0.out | exact M0.out.old _ : Blk _ b0 #[.bool false, .bool false, .bool false, .bool false, .bool false, .int .i64 0, .int .i64 0, .int .i64 0, .int .i64 0, .int .i64 0, .string ⟨#[]⟩, .string ⟨#[]⟩, .string ⟨#[]⟩, .string ⟨#[]⟩] 25).below hb_); replace M1 := Aside.mk ((by first | exact M1.out | exact M1.out.old _ : Blk _ b1 #[.bool false, .bool false, .bool false, .bool false, .bool false, .int .i64 0, .int .i64 0, .int .i64 0, .int .i64 0, .int .i64 0, .string ⟨#[]⟩, .string ⟨#[]⟩, .string ⟨#[]⟩, .string ⟨#[]⟩] 25).below hb_); replace M2 := Aside.mk ((by first | exact M2.out | exact M2.out.old _ : Blk _ b2 #[.bool false, .bool false, .bool false, .bool false, .bool false, .int .i64 0, .int .i64 0, .int .i64 0, .int .i64 0, .int .i64 0, .string ⟨#[]⟩, .string ⟨#[]⟩, .string ⟨#[]⟩, .string ⟨#[]⟩] 25).below hb_); have M3 := Aside.mk (blk_named hb_ b3 hn3); clear hn3; have x0_6 := Blk.cell M0.out 6 _ rfl; have x1_9 := Blk.cell M1.out 9 _ rfl; have x2_8 := Blk.cell M2.out 8 _ rfl; have x3_8 := Blk.cell M3.out 8 _ rfl; have x3_13 := Blk.cell M3.out 13 _ rfl; have l0 := Blk.lt M0.out; have l1 := Blk.lt M1.out; have l2 := Blk.lt M2.out; have l3 := Blk.lt M3.out; clear hb_))
  all_goals
    go_ret
    exact ⟨rfl, by first | exact L.out | exact L.out.alloc L.out.size _⟩
set_option maxHeartbeats 16000000 in
theorem rng_c2 (n : Int) (h0 : -999999999 ≤ n) (h1 : n ≤ 999999999) (hn : -9 ≤ n ∧ n < 0) (w : World) (hl : Lv w) : Calls Tryz.prog 6 #[.int .i64 n] w fun e w' => e = .returned (.bool true) ∧ Below w.heap.size w w' := by
  have haw := fun W (hW : Lv W) => awake_any W hW
  have hdg := fun W => digits_all n (by omega) (by omega) W
  have hdl := Lib.itoa_length_le n (by omega) (by omega)
  obtain ⟨s, hs⟩ : ∃ s : ByteArray, (⟨(Lib.itoa n).toArray⟩ : ByteArray) = s := ⟨_, rfl⟩
  have hsz : s.size ≤ 21 := by rw [← hs]; exact hdl
  rw [hs] at hdg
  clear hdl
  obtain ⟨n1, n2⟩ := hn
  have p0 : ∀ W, Lv W → Calls Tryz.prog 16 #[.string (⟨#[72, 79, 76, 68, 70, 79, 82, 61]⟩ ++ s)] W fun e w' => e = .returned (.tuple #[.agg #[.bool false, .bool false, .bool false, .bool false, .bool false, .int .i64 0, .int .i64 0, .int .i64 0, .int .i64 0, .int .i64 0, .string ⟨#[]⟩, .string ⟨#[]⟩, .string ⟨#[]⟩, .string ⟨#[]⟩], .int .i64 2]) ∧ Below W.heap.size W w' := by
    intro W hW
    have h := parseMail_any (⟨#[72, 79, 76, 68, 70, 79, 82, 61]⟩ ++ s) (small1 _ _ (by decide) hsz) W hW
    rw [pr_for n s hs.symm (by omega) (by omega)] at h
    rw [if_pos (by omega)] at h
    exact h
  have p1 : ∀ W, Lv W → Calls Tryz.prog 16 #[.string (⟨#[77, 84, 45, 80, 82, 73, 79, 82, 73, 84, 89, 61]⟩ ++ s)] W fun e w' => e = .returned (.tuple #[.agg #[.bool false, .bool false, .bool false, .bool false, .bool true, .int .i64 0, .int .i64 0, .int .i64 0, .int .i64 0, .int .i64 n, .string ⟨#[]⟩, .string ⟨#[]⟩, .string ⟨#[]⟩, .string ⟨#[]⟩], .int .i64 0]) ∧ Below W.heap.size W w' := by
    intro W hW
    have h := parseMail_any (⟨#[77, 84, 45, 80, 82, 73, 79, 82, 73, 84, 89, 61]⟩ ++ s) (small1 _ _ (by decide) hsz) W hW
    rw [pr_pri n s hs.symm (by omega) (by omega)] at h
    rw [if_neg (by omega)] at h
    exact h
  have p2 : ∀ W, Lv W → Calls Tryz.prog 16 #[.string (⟨#[66, 89, 61]⟩ ++ s ++ ⟨#[59, 82]⟩)] W fun e w' => e = .returned (.tuple #[.agg #[.bool false, .bool false, .bool false, .bool false, .bool false, .int .i64 0, .int .i64 0, .int .i64 0, .int .i64 0, .int .i64 0, .string ⟨#[]⟩, .string ⟨#[]⟩, .string ⟨#[]⟩, .string ⟨#[]⟩], .int .i64 1]) ∧ Below W.heap.size W w' := by
    intro W hW
    have h := parseMail_any (⟨#[66, 89, 61]⟩ ++ s ++ ⟨#[59, 82]⟩) (small2 _ _ _ (by decide) hsz (by decide)) W hW
    rw [pr_by n s hs.symm (by omega) (by omega) 82 (.inl rfl) 1 rfl] at h
    rw [if_pos (by omega)] at h
    exact h
  have p3 : ∀ W, Lv W → Calls Tryz.prog 16 #[.string (⟨#[66, 89, 61]⟩ ++ s ++ ⟨#[59, 78]⟩)] W fun e w' => e = .returned (.tuple #[.agg #[.bool false, .bool false, .bool false, .bool true, .bool false, .int .i64 0, .int .i64 0, .int .i64 0, .int .i64 n, .int .i64 0, .string ⟨#[]⟩, .string ⟨#[]⟩, .string ⟨#[]⟩, .string ⟨#[78]⟩], .int .i64 0]) ∧ Below W.heap.size W w' := by
    intro W hW
    have h := parseMail_any (⟨#[66, 89, 61]⟩ ++ s ++ ⟨#[59, 78]⟩) (small2 _ _ _ (by decide) hsz (by decide)) W hW
    rw [pr_by n s hs.symm (by omega) (by omega) 78 (.inr rfl) (-999999999) rfl] at h
    rw [if_neg (by omega)] at h
    exact h
  have p4 : ∀ W, Lv W → Calls Tryz.prog 16 #[.string (⟨#[83, 73, 90, 69, 61]⟩ ++ s)] W fun e w' => e = .returned (.tuple #[.agg #[.bool false, .bool false, .bool false, .bool false, .bool false, .int .i64 0, .int .i64 0, .int .i64 0, .int .i64 0, .int .i64 0, .string ⟨#[]⟩, .string ⟨#[]⟩, .string ⟨#[]⟩, .string ⟨#[]⟩], .int .i64 2]) ∧ Below W.heap.size W w' := by
    intro W hW
    have h := parseMail_any (⟨#[83, 73, 90, 69, 61]⟩ ++ s) (small1 _ _ (by decide) hsz) W hW
    rw [pr_size n s hs.symm (by omega) (by omega)] at h
    rw [if_pos (by omega)] at h
    exact h
  have g1 : ¬ 9223372036854775807 < 8 + s.size := by omega
  have g2 : ¬ 9223372036854775807 < 12 + s.size := by omega
  have g3 : ¬ 9223372036854775807 < 3 + s.size := by omega
  have g4 : ¬ 9223372036854775807 < 3 + s.size + 2 := by omega
  have g5 : ¬ 9223372036854775807 < 5 + s.size := by omega
  clear hs
  have L : Aside (Below w.heap.size w w) := ⟨Below.refl _ _⟩
  go_enter Tryz.func6, Tryz.ntmps6
  go_wp2_with (first | (go_at_call 7; (with_reducible refine (haw _ hl).mono ?_); rintro e w_ ⟨rfl, hb_⟩; replace L := Aside.mk ((by first | exact L.out | exact L.out.alloc L.out.size _ : Below w.heap.size w _).trans (hb_.mono (by first | exact L.out.size | (simp; have := L.out.size; omega)))); clear hb_) | (go_at_call 19; (with_reducible refine (hdg _).mono ?_); rintro e w_ ⟨rfl, hb_⟩; replace L := Aside.mk ((by first | exact L.out | exact L.out.alloc L.out.size _ : Below w.heap.size w _).trans (hb_.mono (by first | exact L.out.size | (simp; have := L.out.size; omega)))); clear hb_) | (go_at_call 16; (with_reducible refine (p0 _ (hl.next (by first | exact L.out | exact L.out.alloc L.out.size _))).mono ?_); rintro e w_ ⟨rfl, hb_⟩; replace L := Aside.mk ((by first | exact L.out | exact L.out.alloc L.out.size _ : Below w.heap.size w _).trans (hb_.mono (by first | exact L.out.size | (simp; have := L.out.size; omega)))); obtain ⟨b0, hn0⟩ : ∃ b, w_.heap.size = b := ⟨_, rfl⟩; clear hb_) | (go_at_call 16; (with_reducible refine (p1 _ (hl.next (by first | exact L.out | exact L.out.alloc L.out.size _))).mono ?_); rintro e w_ ⟨rfl, hb_⟩; replace L := Aside.mk ((by first | exact L.out | exact L.out.alloc L.out.size _ : Below w.heap.size w _).trans (hb_.mono (by first | exact L.out.size | (simp; have := L.out.size; omega)))); have M0 := Aside.mk (blk_named hb_ b0 hn0); clear hn0; obtain ⟨b1, hn1⟩ : ∃ b, w_.heap.size = b := ⟨_, rfl⟩; clear hb_) | (go_at_call 16; (with_reducible refine (p2 _ (hl.next (by first | exact L.out | exact L.out.alloc L.out.size _))).mono ?_); rintro e w_ ⟨rfl, hb_⟩; replace L := Aside.mk ((by first | exact L.out | exact L.out.alloc L.out.size _ : Below w.heap.size w _).trans (hb_.mono (by first | exact L.out.size | (simp; have := L.out.size; omega)))); replace M0 := Aside.mk ((by first | exact M0.out | exact M0.out.old _ : Blk _ b0 #[.bool false, .bool false, .bool false, .bool false, .bool false, .int .i64 0, .int .i64 0, .int .i64 0, .int .i64 0, .int .i64 0, .string ⟨#[]⟩, .string ⟨#[]⟩, .string ⟨#[]⟩, .string ⟨#[]⟩] 25).below hb_); have M1 := Aside.mk (blk_named hb_ b1 hn1); clear hn1; obtain ⟨b2, hn2⟩ : ∃ b, w_.heap.size = b := ⟨_, rfl⟩; clear hb_) | (go_at_call 16; (with_reducible refine (p3 _ (hl.next (by first | exact L.out | exact L.out.alloc L.out.size _))).mono ?_); rintro e w_ ⟨rfl, hb_⟩; replace L := Aside.mk ((by first | exact L.out | exact L.out.alloc L.out.size _ : Below w.heap.size w _).trans (hb_.mono (by first | exact L.out.size | (simp; have := L.out.size; omega)))); replace M0 := Aside.mk ((by first | exact M0.out | exact M0.out.old _ : Blk _ b0 #[.bool false, .bool false, .bool false, .bool false, .bool false, .int .i64 0, .int .i64 0, .int .i64 0, .int .i64 0, .int .i64 0, .string ⟨#[]⟩, .string ⟨#[]⟩, .string ⟨#[]⟩, .string ⟨#[]⟩] 25).below hb_); replace M1 := Aside.mk ((by first | exact M1.out | exact M1.out.old _ : Blk _ b1 #[.bool false, .bool false, .bool false, .bool false, .bool true, .int .i64 0, .int .i64 0, .int .i64 0, .int .i64 0, .int .i64 n, .string ⟨#[]⟩, .string ⟨#[]⟩, .string ⟨#[]⟩, .string ⟨#[]⟩] 25).below hb_); have M2 := Aside.mk (blk_named hb_ b2 hn2); clear hn2; obtain ⟨b3, hn3⟩ : ∃ b, w_.heap.size = b := ⟨_, rfl⟩; clear hb_) | (go_at_call 16; (with_reducible refine (p4 _ (hl.next (by first | exact L.out | exact L.out.alloc L.out.size _))).mono ?_); rintro e w_ ⟨rfl, hb_⟩; replace L := Aside.mk ((by first | exact L.out | exact L.out.alloc L.out.size _ : Below w.heap.size w _).trans (hb_.mono (by first | exact L.out.size | (simp; have := L.out.size; omega)))); replace M0 := Aside.mk ((by first | exact M0.out | exact M0.out.old _ : Blk _ b0 #[.bool false, .bool false, .bool false, .bool false, .bool false, .int .i64 0, .int .i64 0, .int .i64 0, .int .i64 0, .int .i64 0, .string ⟨#[]⟩, .string ⟨#[]⟩, .string ⟨#[]⟩, .string ⟨#[]⟩] 25).below hb_); replace M1 := Aside.mk ((by first | exact M1.out | exact M1.out.old _ : Blk _ b1 #[.bool false, .bool false, .bool false, .bool false, .bool true, .int .i64 0, .int .i64 0, .int .i64 0, .int .i64 0, .int .i64 n, .string ⟨#[]⟩, .string ⟨#[]⟩, .string ⟨#[]⟩, .string ⟨#[]⟩] 25).below hb_); replace M2 := Aside.mk ((by first | exact M2.out | exact M2.out.old _ : Blk _ b2 #[.bool false, .bool false, .bool false, .bool false, .bool false, .int .i64 0, .int .i64 0, .int .i64 0, .int .i64 0, .int .i64 0, .string ⟨#[]⟩, .string ⟨#[]⟩, .string ⟨#[]⟩, .string ⟨#[]⟩] 25).below hb_); have M3 := Aside.mk (blk_named hb_ b3 hn3); clear hn3; have x0_6 := Blk.cell M0.out 6 _ rfl; have x1_9 := Blk.cell M1.out 9 _ rfl; have x2_8 := Blk.cell M2.out 8 _ rfl; have x3_8 := Blk.cell M3.out 8 _ rfl; have x3_13 := Blk.cell M3.out 13 _ rfl; have l0 := Blk.lt M0.out; have l1 := Blk.lt M1.out; have l2 := Blk.lt M2.out; have l3 := Blk.lt M3.out; clear hb_))
  all_goals
    go_ret
    exact ⟨rfl, by first | exact L.out | exact L.out.alloc L.out.size _⟩
set_option maxHeartbeats 16000000 in
theorem rng_c3 (n : Int) (h0 : -999999999 ≤ n) (h1 : n ≤ 999999999) (hn : n = 0) (w : World) (hl : Lv w) : Calls Tryz.prog 6 #[.int .i64 n] w fun e w' => e = .returned (.bool true) ∧ Below w.heap.size w w' := by
  have haw := fun W (hW : Lv W) => awake_any W hW
  have hdg := fun W => digits_all n (by omega) (by omega) W
  have hdl := Lib.itoa_length_le n (by omega) (by omega)
  obtain ⟨s, hs⟩ : ∃ s : ByteArray, (⟨(Lib.itoa n).toArray⟩ : ByteArray) = s := ⟨_, rfl⟩
  have hsz : s.size ≤ 21 := by rw [← hs]; exact hdl
  rw [hs] at hdg
  clear hdl
  subst hn
  have p0 : ∀ W, Lv W → Calls Tryz.prog 16 #[.string (⟨#[72, 79, 76, 68, 70, 79, 82, 61]⟩ ++ s)] W fun e w' => e = .returned (.tuple #[.agg #[.bool false, .bool false, .bool false, .bool false, .bool false, .int .i64 0, .int .i64 0, .int .i64 0, .int .i64 0, .int .i64 0, .string ⟨#[]⟩, .string ⟨#[]⟩, .string ⟨#[]⟩, .string ⟨#[]⟩], .int .i64 1]) ∧ Below W.heap.size W w' := by
    intro W hW
    have h := parseMail_any (⟨#[72, 79, 76, 68, 70, 79, 82, 61]⟩ ++ s) (small1 _ _ (by decide) hsz) W hW
    rw [pr_for 0 s hs.symm (by omega) (by omega)] at h
    rw [if_neg (by omega), if_pos (by omega)] at h
    exact h
  have p1 : ∀ W, Lv W → Calls Tryz.prog 16 #[.string (⟨#[77, 84, 45, 80, 82, 73, 79, 82, 73, 84, 89, 61]⟩ ++ s)] W fun e w' => e = .returned (.tuple #[.agg #[.bool false, .bool false, .bool false, .bool false, .bool true, .int .i64 0, .int .i64 0, .int .i64 0, .int .i64 0, .int .i64 0, .string ⟨#[]⟩, .string ⟨#[]⟩, .string ⟨#[]⟩, .string ⟨#[]⟩], .int .i64 0]) ∧ Below W.heap.size W w' := by
    intro W hW
    have h := parseMail_any (⟨#[77, 84, 45, 80, 82, 73, 79, 82, 73, 84, 89, 61]⟩ ++ s) (small1 _ _ (by decide) hsz) W hW
    rw [pr_pri 0 s hs.symm (by omega) (by omega)] at h
    rw [if_neg (by omega)] at h
    exact h
  have p2 : ∀ W, Lv W → Calls Tryz.prog 16 #[.string (⟨#[66, 89, 61]⟩ ++ s ++ ⟨#[59, 82]⟩)] W fun e w' => e = .returned (.tuple #[.agg #[.bool false, .bool false, .bool false, .bool false, .bool false, .int .i64 0, .int .i64 0, .int .i64 0, .int .i64 0, .int .i64 0, .string ⟨#[]⟩, .string ⟨#[]⟩, .string ⟨#[]⟩, .string ⟨#[]⟩], .int .i64 1]) ∧ Below W.heap.size W w' := by
    intro W hW
    have h := parseMail_any (⟨#[66, 89, 61]⟩ ++ s ++ ⟨#[59, 82]⟩) (small2 _ _ _ (by decide) hsz (by decide)) W hW
    rw [pr_by 0 s hs.symm (by omega) (by omega) 82 (.inl rfl) 1 rfl] at h
    rw [if_pos (by omega)] at h
    exact h
  have p3 : ∀ W, Lv W → Calls Tryz.prog 16 #[.string (⟨#[66, 89, 61]⟩ ++ s ++ ⟨#[59, 78]⟩)] W fun e w' => e = .returned (.tuple #[.agg #[.bool false, .bool false, .bool false, .bool true, .bool false, .int .i64 0, .int .i64 0, .int .i64 0, .int .i64 0, .int .i64 0, .string ⟨#[]⟩, .string ⟨#[]⟩, .string ⟨#[]⟩, .string ⟨#[78]⟩], .int .i64 0]) ∧ Below W.heap.size W w' := by
    intro W hW
    have h := parseMail_any (⟨#[66, 89, 61]⟩ ++ s ++ ⟨#[59, 78]⟩) (small2 _ _ _ (by decide) hsz (by decide)) W hW
    rw [pr_by 0 s hs.symm (by omega) (by omega) 78 (.inr rfl) (-999999999) rfl] at h
    rw [if_neg (by omega)] at h
    exact h
  have p4 : ∀ W, Lv W → Calls Tryz.prog 16 #[.string (⟨#[83, 73, 90, 69, 61]⟩ ++ s)] W fun e w' => e = .returned (.tuple #[.agg #[.bool true, .bool false, .bool false, .bool false, .bool false, .int .i64 0, .int .i64 0, .int .i64 0, .int .i64 0, .int .i64 0, .string ⟨#[]⟩, .string ⟨#[]⟩, .string ⟨#[]⟩, .string ⟨#[]⟩], .int .i64 0]) ∧ Below W.heap.size W w' := by
    intro W hW
    have h := parseMail_any (⟨#[83, 73, 90, 69, 61]⟩ ++ s) (small1 _ _ (by decide) hsz) W hW
    rw [pr_size 0 s hs.symm (by omega) (by omega)] at h
    rw [if_neg (by omega)] at h
    exact h
  have g1 : ¬ 9223372036854775807 < 8 + s.size := by omega
  have g2 : ¬ 9223372036854775807 < 12 + s.size := by omega
  have g3 : ¬ 9223372036854775807 < 3 + s.size := by omega
  have g4 : ¬ 9223372036854775807 < 3 + s.size + 2 := by omega
  have g5 : ¬ 9223372036854775807 < 5 + s.size := by omega
  clear hs
  have L : Aside (Below w.heap.size w w) := ⟨Below.refl _ _⟩
  go_enter Tryz.func6, Tryz.ntmps6
  go_wp2_with (first | (go_at_call 7; (with_reducible refine (haw _ hl).mono ?_); rintro e w_ ⟨rfl, hb_⟩; replace L := Aside.mk ((by first | exact L.out | exact L.out.alloc L.out.size _ : Below w.heap.size w _).trans (hb_.mono (by first | exact L.out.size | (simp; have := L.out.size; omega)))); clear hb_) | (go_at_call 19; (with_reducible refine (hdg _).mono ?_); rintro e w_ ⟨rfl, hb_⟩; replace L := Aside.mk ((by first | exact L.out | exact L.out.alloc L.out.size _ : Below w.heap.size w _).trans (hb_.mono (by first | exact L.out.size | (simp; have := L.out.size; omega)))); clear hb_) | (go_at_call 16; (with_reducible refine (p0 _ (hl.next (by first | exact L.out | exact L.out.alloc L.out.size _))).mono ?_); rintro e w_ ⟨rfl, hb_⟩; replace L := Aside.mk ((by first | exact L.out | exact L.out.alloc L.out.size _ : Below w.heap.size w _).trans (hb_.mono (by first | exact L.out.size | (simp; have := L.out.size; omega)))); obtain ⟨b0, hn0⟩ : ∃ b, w_.heap.size = b := ⟨_, rfl⟩; clear hb_) | (go_at_call 16; (with_reducible refine (p1 _ (hl.next (by first | exact L.out | exact L.out.alloc L.out.size _))).mono ?_); rintro e w_ ⟨rfl, hb_⟩; replace L := Aside.mk ((by first | exact L.out | exact L.out.alloc L.out.size _ : Below w.heap.size w _).trans (hb_.mono (by first | exact L.out.size | (simp; have := L.out.size; omega)))); have M0 := Aside.mk (blk_named hb_ b0 hn0); clear hn0; obtain ⟨b1, hn1⟩ : ∃ b, w_.heap.size = b := ⟨_, rfl⟩; clear hb_) | (go_at_call 16; (with_reducible refine (p2 _ (hl.next (by first | exact L.out | exact L.out.alloc L.out.size _))).mono ?_); rintro e w_ ⟨rfl, hb_⟩; replace L := Aside.mk ((by first | exact L.out | exact L.out.alloc L.out.size _ : Below w.heap.size w _).trans (hb_.mono (by first | exact L.out.size | (simp; have := L.out.size; omega)))); replace M0 := Aside.mk ((by first | exact M0.out | exact M0.out.old _ : Blk _ b0 #[.bool false, .bool false, .bool false, .bool false, .bool false, .int .i64 0, .int .i64 0, .int .i64 0, .int .i64 0, .int .i64 0, .string ⟨#[]⟩, .string ⟨#[]⟩, .string ⟨#[]⟩, .string ⟨#[]⟩] 25).below hb_); have M1 := Aside.mk (blk_named hb_ b1 hn1); clear hn1; obtain ⟨b2, hn2⟩ : ∃ b, w_.heap.size = b := ⟨_, rfl⟩; clear hb_) | (go_at_call 16; (with_reducible refine (p3 _ (hl.next (by first | exact L.out | exact L.out.alloc L.out.size _))).mono ?_); rintro e w_ ⟨rfl, hb_⟩; replace L := Aside.mk ((by first | exact L.out | exact L.out.alloc L.out.size _ : Below w.heap.size w _).trans (hb_.mono (by first | exact L.out.size | (simp; have := L.out.size; omega)))); replace M0 := Aside.mk ((by first | exact M0.out | exact M0.out.old _ : Blk _ b0 #[.bool false, .bool false, .bool false, .bool false, .bool false, .int .i64 0, .int .i64 0, .int .i64 0, .int .i64 0, .int .i64 0, .string ⟨#[]⟩, .string ⟨#[]⟩, .string ⟨#[]⟩, .string ⟨#[]⟩] 25).below hb_); replace M1 := Aside.mk ((by first | exact M1.out | exact M1.out.old _ : Blk _ b1 #[.bool false, .bool false, .bool false, .bool false, .bool true, .int .i64 0, .int .i64 0, .int .i64 0, .int .i64 0, .int .i64 0, .string ⟨#[]⟩, .string ⟨#[]⟩, .string ⟨#[]⟩, .string ⟨#[]⟩] 25).below hb_); have M2 := Aside.mk (blk_named hb_ b2 hn2); clear hn2; obtain ⟨b3, hn3⟩ : ∃ b, w_.heap.size = b := ⟨_, rfl⟩; clear hb_) | (go_at_call 16; (with_reducible refine (p4 _ (hl.next (by first | exact L.out | exact L.out.alloc L.out.size _))).mono ?_); rintro e w_ ⟨rfl, hb_⟩; replace L := Aside.mk ((by first | exact L.out | exact L.out.alloc L.out.size _ : Below w.heap.size w _).trans (hb_.mono (by first | exact L.out.size | (simp; have := L.out.size; omega)))); replace M0 := Aside.mk ((by first | exact M0.out | exact M0.out.old _ : Blk _ b0 #[.bool false, .bool false, .bool false, .bool false, .bool false, .int .i64 0, .int .i64 0, .int .i64 0, .int .i64 0, .int .i64 0, .string ⟨#[]⟩, .string ⟨#[]⟩, .string ⟨#[]⟩, .string ⟨#[]⟩] 25).below hb_); replace M1 := Aside.mk ((by first | exact M1.out | exact M1.out.old _ : Blk _ b1 #[.bool false, .bool false, .bool false, .bool false, .bool true, .int .i64 0, .int .i64 0, .int .i64 0, .int .i64 0, .int .i64 0, .string ⟨#[]⟩, .string ⟨#[]⟩, .string ⟨#[]⟩, .string ⟨#[]⟩] 25).below hb_); replace M2 := Aside.mk ((by first | exact M2.out | exact M2.out.old _ : Blk _ b2 #[.bool false, .bool false, .bool false, .bool false, .bool false, .int .i64 0, .int .i64 0, .int .i64 0, .int .i64 0, .int .i64 0, .string ⟨#[]⟩, .string ⟨#[]⟩, .string ⟨#[]⟩, .string ⟨#[]⟩] 25).below hb_); have M3 := Aside.mk (blk_named hb_ b3 hn3); clear hn3; have x0_6 := Blk.cell M0.out 6 _ rfl; have x1_9 := Blk.cell M1.out 9 _ rfl; have x2_8 := Blk.cell M2.out 8 _ rfl; have x3_8 := Blk.cell M3.out 8 _ rfl; have x3_13 := Blk.cell M3.out 13 _ rfl; have l0 := Blk.lt M0.out; have l1 := Blk.lt M1.out; have l2 := Blk.lt M2.out; have l3 := Blk.lt M3.out; clear hb_))
  all_goals
    go_ret
    exact ⟨rfl, by first | exact L.out | exact L.out.alloc L.out.size _⟩
set_option maxHeartbeats 16000000 in
theorem rng_c4 (n : Int) (h0 : -999999999 ≤ n) (h1 : n ≤ 999999999) (hn : 1 ≤ n ∧ n ≤ 9) (w : World) (hl : Lv w) : Calls Tryz.prog 6 #[.int .i64 n] w fun e w' => e = .returned (.bool true) ∧ Below w.heap.size w w' := by
  have haw := fun W (hW : Lv W) => awake_any W hW
  have hdg := fun W => digits_all n (by omega) (by omega) W
  have hdl := Lib.itoa_length_le n (by omega) (by omega)
  obtain ⟨s, hs⟩ : ∃ s : ByteArray, (⟨(Lib.itoa n).toArray⟩ : ByteArray) = s := ⟨_, rfl⟩
  have hsz : s.size ≤ 21 := by rw [← hs]; exact hdl
  rw [hs] at hdg
  clear hdl
  obtain ⟨n1, n2⟩ := hn
  have p0 : ∀ W, Lv W → Calls Tryz.prog 16 #[.string (⟨#[72, 79, 76, 68, 70, 79, 82, 61]⟩ ++ s)] W fun e w' => e = .returned (.tuple #[.agg #[.bool false, .bool true, .bool false, .bool false, .bool false, .int .i64 0, .int .i64 n, .int .i64 0, .int .i64 0, .int .i64 0, .string ⟨#[]⟩, .string ⟨#[]⟩, .string ⟨#[]⟩, .string ⟨#[]⟩], .int .i64 0]) ∧ Below W.heap.size W w' := by
    intro W hW
    have h := parseMail_any (⟨#[72, 79, 76, 68, 70, 79, 82, 61]⟩ ++ s) (small1 _ _ (by decide) hsz) W hW
    rw [pr_for n s hs.symm (by omega) (by omega)] at h
    rw [if_neg (by omega), if_neg (by omega)] at h
    exact h
  have p1 : ∀ W, Lv W → Calls Tryz.prog 16 #[.string (⟨#[77, 84, 45, 80, 82, 73, 79, 82, 73, 84, 89, 61]⟩ ++ s)] W fun e w' => e = .returned (.tuple #[.agg #[.bool false, .bool false, .bool false, .bool false, .bool true, .int .i64 0, .int .i64 0, .int .i64 0, .int .i64 0, .int .i64 n, .string ⟨#[]⟩, .string ⟨#[]⟩, .string ⟨#[]⟩, .string ⟨#[]⟩], .int .i64 0]) ∧ Below W.heap.size W w' := by
    intro W hW
    have h := parseMail_any (⟨#[77, 84, 45, 80, 82, 73, 79, 82, 73, 84, 89, 61]⟩ ++ s) (small1 _ _ (by decide) hsz) W hW
    rw [pr_pri n s hs.symm (by omega) (by omega)] at h
    rw [if_neg (by omega)] at h
    exact h
  have p2 : ∀ W, Lv W → Calls Tryz.prog 16 #[.string (⟨#[66, 89, 61]⟩ ++ s ++ ⟨#[59, 82]⟩)] W fun e w' => e = .returned (.tuple #[.agg #[.bool false, .bool false, .bool false, .bool true, .bool false, .int .i64 0, .int .i64 0, .int .i64 0, .int .i64 n, .int .i64 0, .string ⟨#[]⟩, .string ⟨#[]⟩, .string ⟨#[]⟩, .string ⟨#[82]⟩], .int .i64 0]) ∧ Below W.heap.size W w' := by
    intro W hW
    have h := parseMail_any (⟨#[66, 89, 61]⟩ ++ s ++ ⟨#[59, 82]⟩) (small2 _ _ _ (by decide) hsz (by decide)) W hW
    rw [pr_by n s hs.symm (by omega) (by omega) 82 (.inl rfl) 1 rfl] at h
    rw [if_neg (by omega)] at h
    exact h
  have p3 : ∀ W, Lv W → Calls Tryz.prog 16 #[.string (⟨#[66, 89, 61]⟩ ++ s ++ ⟨#[59, 78]⟩)] W fun e w' => e = .returned (.tuple #[.agg #[.bool false, .bool false, .bool false, .bool true, .bool false, .int .i64 0, .int .i64 0, .int .i64 0, .int .i64 n, .int .i64 0, .string ⟨#[]⟩, .string ⟨#[]⟩, .string ⟨#[]⟩, .string ⟨#[78]⟩], .int .i64 0]) ∧ Below W.heap.size W w' := by
    intro W hW
    have h := parseMail_any (⟨#[66, 89, 61]⟩ ++ s ++ ⟨#[59, 78]⟩) (small2 _ _ _ (by decide) hsz (by decide)) W hW
    rw [pr_by n s hs.symm (by omega) (by omega) 78 (.inr rfl) (-999999999) rfl] at h
    rw [if_neg (by omega)] at h
    exact h
  have p4 : ∀ W, Lv W → Calls Tryz.prog 16 #[.string (⟨#[83, 73, 90, 69, 61]⟩ ++ s)] W fun e w' => e = .returned (.tuple #[.agg #[.bool true, .bool false, .bool false, .bool false, .bool false, .int .i64 n, .int .i64 0, .int .i64 0, .int .i64 0, .int .i64 0, .string ⟨#[]⟩, .string ⟨#[]⟩, .string ⟨#[]⟩, .string ⟨#[]⟩], .int .i64 0]) ∧ Below W.heap.size W w' := by
    intro W hW
    have h := parseMail_any (⟨#[83, 73, 90, 69, 61]⟩ ++ s) (small1 _ _ (by decide) hsz) W hW
    rw [pr_size n s hs.symm (by omega) (by omega)] at h
    rw [if_neg (by omega)] at h
    exact h
  have g1 : ¬ 9223372036854775807 < 8 + s.size := by omega
  have g2 : ¬ 9223372036854775807 < 12 + s.size := by omega
  have g3 : ¬ 9223372036854775807 < 3 + s.size := by omega
  have g4 : ¬ 9223372036854775807 < 3 + s.size + 2 := by omega
  have g5 : ¬ 9223372036854775807 < 5 + s.size := by omega
  clear hs
  have L : Aside (Below w.heap.size w w) := ⟨Below.refl _ _⟩
  go_enter Tryz.func6, Tryz.ntmps6
  go_wp2_with (first | (go_at_call 7; (with_reducible refine (haw _ hl).mono ?_); rintro e w_ ⟨rfl, hb_⟩; replace L := Aside.mk ((by first | exact L.out | exact L.out.alloc L.out.size _ : Below w.heap.size w _).trans (hb_.mono (by first | exact L.out.size | (simp; have := L.out.size; omega)))); clear hb_) | (go_at_call 19; (with_reducible refine (hdg _).mono ?_); rintro e w_ ⟨rfl, hb_⟩; replace L := Aside.mk ((by first | exact L.out | exact L.out.alloc L.out.size _ : Below w.heap.size w _).trans (hb_.mono (by first | exact L.out.size | (simp; have := L.out.size; omega)))); clear hb_) | (go_at_call 16; (with_reducible refine (p0 _ (hl.next (by first | exact L.out | exact L.out.alloc L.out.size _))).mono ?_); rintro e w_ ⟨rfl, hb_⟩; replace L := Aside.mk ((by first | exact L.out | exact L.out.alloc L.out.size _ : Below w.heap.size w _).trans (hb_.mono (by first | exact L.out.size | (simp; have := L.out.size; omega)))); obtain ⟨b0, hn0⟩ : ∃ b, w_.heap.size = b := ⟨_, rfl⟩; clear hb_) | (go_at_call 16; (with_reducible refine (p1 _ (hl.next (by first | exact L.out | exact L.out.alloc L.out.size _))).mono ?_); rintro e w_ ⟨rfl, hb_⟩; replace L := Aside.mk ((by first | exact L.out | exact L.out.alloc L.out.size _ : Below w.heap.size w _).trans (hb_.mono (by first | exact L.out.size | (simp; have := L.out.size; omega)))); have M0 := Aside.mk (blk_named hb_ b0 hn0); clear hn0; obtain ⟨b1, hn1⟩ : ∃ b, w_.heap.size = b := ⟨_, rfl⟩; clear hb_) | (go_at_call 16; (with_reducible refine (p2 _ (hl.next (by first | exact L.out | exact L.out.alloc L.out.size _))).mono ?_); rintro e w_ ⟨rfl, hb_⟩; replace L := Aside.mk ((by first | exact L.out | exact L.out.alloc L.out.size _ : Below w.heap.size w _).trans (hb_.mono (by first | exact L.out.size | (simp; have := L.out.size; omega)))); replace M0 := Aside.mk ((by first | exact M0.out | exact M0.out.old _ : Blk _ b0 #[.bool false, .bool true, .bool false, .bool false, .bool false, .int .i64 0, .int .i64 n, .int .i64 0, .int .i64 0, .int .i64 0, .string ⟨#[]⟩, .string ⟨#[]⟩, .string ⟨#[]⟩, .string ⟨#[]⟩] 25).below hb_); have M1 := Aside.mk (blk_named hb_ b1 hn1); clear hn1; obtain ⟨b2, hn2⟩ : ∃ b, w_.heap.size = b := ⟨_, rfl⟩; clear hb_) | (go_at_call 16; (with_reducible refine (p3 _ (hl.next (by first | exact L.out | exact L.out.alloc L.out.size _))).mono ?_); rintro e w_ ⟨rfl, hb_⟩; replace L := Aside.mk ((by first | exact L.out | exact L.out.alloc L.out.size _ : Below w.heap.size w _).trans (hb_.mono (by first | exact L.out.size | (simp; have := L.out.size; omega)))); replace M0 := Aside.mk ((by first | exact M0.out | exact M0.out.old _ : Blk _ b0 #[.bool false, .bool true, .bool false, .bool false, .bool false, .int .i64 0, .int .i64 n, .int .i64 0, .int .i64 0, .int .i64 0, .string ⟨#[]⟩, .string ⟨#[]⟩, .string ⟨#[]⟩, .string ⟨#[]⟩] 25).below hb_); replace M1 := Aside.mk ((by first | exact M1.out | exact M1.out.old _ : Blk _ b1 #[.bool false, .bool false, .bool false, .bool false, .bool true, .int .i64 0, .int .i64 0, .int .i64 0, .int .i64 0, .int .i64 n, .string ⟨#[]⟩, .string ⟨#[]⟩, .string ⟨#[]⟩, .string ⟨#[]⟩] 25).below hb_); have M2 := Aside.mk (blk_named hb_ b2 hn2); clear hn2; obtain ⟨b3, hn3⟩ : ∃ b, w_.heap.size = b := ⟨_, rfl⟩; clear hb_) | (go_at_call 16; (with_reducible refine (p4 _ (hl.next (by first | exact L.out | exact L.out.alloc L.out.size _))).mono ?_); rintro e w_ ⟨rfl, hb_⟩; replace L := Aside.mk ((by first | exact L.out | exact L.out.alloc L.out.size _ : Below w.heap.size w _).trans (hb_.mono (by first | exact L.out.size | (simp; have := L.out.size; omega)))); replace M0 := Aside.mk ((by first | exact M0.out | exact M0.out.old _ : Blk _ b0 #[.bool false, .bool true, .bool false, .bool false, .bool false, .int .i64 0, .int .i64 n, .int .i64 0, .int .i64 0, .int .i64 0, .string ⟨#[]⟩, .string ⟨#[]⟩, .string ⟨#[]⟩, .string ⟨#[]⟩] 25).below hb_); replace M1 := Aside.mk ((by first | exact M1.out | exact M1.out.old _ : Blk _ b1 #[.bool false, .bool false, .bool false, .bool false, .bool true, .int .i64 0, .int .i64 0, .int .i64 0, .int .i64 0, .int .i64 n, .string ⟨#[]⟩, .string ⟨#[]⟩, .string ⟨#[]⟩, .string ⟨#[]⟩] 25).below hb_); replace M2 := Aside.mk ((by first | exact M2.out | exact M2.out.old _ : Blk _ b2 #[.bool false, .bool false, .bool false, .bool true, .bool false, .int .i64 0, .int .i64 0, .int .i64 0, .int .i64 n, .int .i64 0, .string ⟨#[]⟩, .string ⟨#[]⟩, .string ⟨#[]⟩, .string ⟨#[82]⟩] 25).below hb_); have M3 := Aside.mk (blk_named hb_ b3 hn3); clear hn3; have x0_6 := Blk.cell M0.out 6 _ rfl; have x1_9 := Blk.cell M1.out 9 _ rfl; have x2_8 := Blk.cell M2.out 8 _ rfl; have x3_8 := Blk.cell M3.out 8 _ rfl; have x3_13 := Blk.cell M3.out 13 _ rfl; have l0 := Blk.lt M0.out; have l1 := Blk.lt M1.out; have l2 := Blk.lt M2.out; have l3 := Blk.lt M3.out; clear hb_))
  all_goals
    go_ret
    exact ⟨rfl, by first | exact L.out | exact L.out.alloc L.out.size _⟩
set_option maxHeartbeats 16000000 in
theorem rng_c5 (n : Int) (h0 : -999999999 ≤ n) (h1 : n ≤ 999999999) (hn : 10 ≤ n ∧ n ≤ 1048576) (w : World) (hl : Lv w) : Calls Tryz.prog 6 #[.int .i64 n] w fun e w' => e = .returned (.bool true) ∧ Below w.heap.size w w' := by
  have haw := fun W (hW : Lv W) => awake_any W hW
  have hdg := fun W => digits_all n (by omega) (by omega) W
  have hdl := Lib.itoa_length_le n (by omega) (by omega)
  obtain ⟨s, hs⟩ : ∃ s : ByteArray, (⟨(Lib.itoa n).toArray⟩ : ByteArray) = s := ⟨_, rfl⟩
  have hsz : s.size ≤ 21 := by rw [← hs]; exact hdl
  rw [hs] at hdg
  clear hdl
  obtain ⟨n1, n2⟩ := hn
  have p0 : ∀ W, Lv W → Calls Tryz.prog 16 #[.string (⟨#[72, 79, 76, 68, 70, 79, 82, 61]⟩ ++ s)] W fun e w' => e = .returned (.tuple #[.agg #[.bool false, .bool true, .bool false, .bool false, .bool false, .int .i64 0, .int .i64 n, .int .i64 0, .int .i64 0, .int .i64 0, .string ⟨#[]⟩, .string ⟨#[]⟩, .string ⟨#[]⟩, .string ⟨#[]⟩], .int .i64 0]) ∧ Below W.heap.size W w' := by
    intro W hW
    have h := parseMail_any (⟨#[72, 79, 76, 68, 70, 79, 82, 61]⟩ ++ s) (small1 _ _ (by decide) hsz) W hW
    rw [pr_for n s hs.symm (by omega) (by omega)] at h
    rw [if_neg (by omega), if_neg (by omega)] at h
    exact h
  have p1 : ∀ W, Lv W → Calls Tryz.prog 16 #[.string (⟨#[77, 84, 45, 80, 82, 73, 79, 82, 73, 84, 89, 61]⟩ ++ s)] W fun e w' => e = .returned (.tuple #[.agg #[.bool false, .bool false, .bool false, .bool false, .bool false, .int .i64 0, .int .i64 0, .int .i64 0, .int .i64 0, .int .i64 0, .string ⟨#[]⟩, .string ⟨#[]⟩, .string ⟨#[]⟩, .string ⟨#[]⟩], .int .i64 1]) ∧ Below W.heap.size W w' := by
    intro W hW
    have h := parseMail_any (⟨#[77, 84, 45, 80, 82, 73, 79, 82, 73, 84, 89, 61]⟩ ++ s) (small1 _ _ (by decide) hsz) W hW
    rw [pr_pri n s hs.symm (by omega) (by omega)] at h
    rw [if_pos (by omega)] at h
    exact h
  have p2 : ∀ W, Lv W → Calls Tryz.prog 16 #[.string (⟨#[66, 89, 61]⟩ ++ s ++ ⟨#[59, 82]⟩)] W fun e w' => e = .returned (.tuple #[.agg #[.bool false, .bool false, .bool false, .bool true, .bool false, .int .i64 0, .int .i64 0, .int .i64 0, .int .i64 n, .int .i64 0, .string ⟨#[]⟩, .string ⟨#[]⟩, .string ⟨#[]⟩, .string ⟨#[82]⟩], .int .i64 0]) ∧ Below W.heap.size W w' := by
    intro W hW
    have h := parseMail_any (⟨#[66, 89, 61]⟩ ++ s ++ ⟨#[59, 82]⟩) (small2 _ _ _ (by decide) hsz (by decide)) W hW
    rw [pr_by n s hs.symm (by omega) (by omega) 82 (.inl rfl) 1 rfl] at h
    rw [if_neg (by omega)] at h
    exact h
  have p3 : ∀ W, Lv W → Calls Tryz.prog 16 #[.string (⟨#[66, 89, 61]⟩ ++ s ++ ⟨#[59, 78]⟩)] W fun e w' => e = .returned (.tuple #[.agg #[.bool false, .bool false, .bool false, .bool true, .bool false, .int .i64 0, .int .i64 0, .int .i64 0, .int .i64 n, .int .i64 0, .string ⟨#[]⟩, .string ⟨#[]⟩, .string ⟨#[]⟩, .string ⟨#[78]⟩], .int .i64 0]) ∧ Below W.heap.size W w' := by
    intro W hW
    have h := parseMail_any (⟨#[66, 89, 61]⟩ ++ s ++ ⟨#[59, 78]⟩) (small2 _ _ _ (by decide) hsz (by decide)) W hW
    rw [pr_by n s hs.symm (by omega) (by omega) 78 (.inr rfl) (-999999999) rfl] at h
    rw [if_neg (by omega)] at h
    exact h
  have p4 : ∀ W, Lv W → Calls Tryz.prog 16 #[.string (⟨#[83, 73, 90, 69, 61]⟩ ++ s)] W fun e w' => e = .returned (.tuple #[.agg #[.bool true, .bool false, .bool false, .bool false, .bool false, .int .i64 n, .int .i64 0, .int .i64 0, .int .i64 0, .int .i64 0, .string ⟨#[]⟩, .string ⟨#[]⟩, .string ⟨#[]⟩, .string ⟨#[]⟩], .int .i64 0]) ∧ Below W.heap.size W w' := by
    intro W hW
    have h := parseMail_any (⟨#[83, 73, 90, 69, 61]⟩ ++ s) (small1 _ _ (by decide) hsz) W hW
    rw [pr_size n s hs.symm (by omega) (by omega)] at h
    rw [if_neg (by omega)] at h
    exact h
  have g1 : ¬ 9223372036854775807 < 8 + s.size := by omega
  have g2 : ¬ 9223372036854775807 < 12 + s.size := by omega
  have g3 : ¬ 9223372036854775807 < 3 + s.size := by omega
  have g4 : ¬ 9223372036854775807 < 3 + s.size + 2 := by omega
  have g5 : ¬ 9223372036854775807 < 5 + s.size := by omega
  clear hs
  have L : Aside (Below w.heap.size w w) := ⟨Below.refl _ _⟩
  go_enter Tryz.func6, Tryz.ntmps6
  go_wp2_with (first | (go_at_call 7; (with_reducible refine (haw _ hl).mono ?_); rintro e w_ ⟨rfl, hb_⟩; replace L := Aside.mk ((by first | exact L.out | exact L.out.alloc L.out.size _ : Below w.heap.size w _).trans (hb_.mono (by first | exact L.out.size | (simp; have := L.out.size; omega)))); clear hb_) | (go_at_call 19; (with_reducible refine (hdg _).mono ?_); rintro e w_ ⟨rfl, hb_⟩; replace L := Aside.mk ((by first | exact L.out | exact L.out.alloc L.out.size _ : Below w.heap.size w _).trans (hb_.mono (by first | exact L.out.size | (simp; have := L.out.size; omega)))); clear hb_) | (go_at_call 16; (with_reducible refine (p0 _ (hl.next (by first | exact L.out | exact L.out.alloc L.out.size _))).mono ?_); rintro e w_ ⟨rfl, hb_⟩; replace L := Aside.mk ((by first | exact L.out | exact L.out.alloc L.out.size _ : Below w.heap.size w _).trans (hb_.mono (by first | exact L.out.size | (simp; have := L.out.size; omega)))); obtain ⟨b0, hn0⟩ : ∃ b, w_.heap.size = b := ⟨_, rfl⟩; clear hb_) | (go_at_call 16; (with_reducible refine (p1 _ (hl.next (by first | exact L.out | exact L.out.alloc L.out.size _))).mono ?_); rintro e w_ ⟨rfl, hb_⟩; replace L := Aside.mk ((by first | exact L.out | exact L.out.alloc L.out.size _ : Below w.heap.size w _).trans (hb_.mono (by first | exact L.out.size | (simp; have := L.out.size; omega)))); have M0 := Aside.mk (blk_named hb_ b0 hn0); clear hn0; obtain ⟨b1, hn1⟩ : ∃ b, w_.heap.size = b := ⟨_, rfl⟩; clear hb_) | (go_at_call 16; (with_reducible refine (p2 _ (hl.next (by first | exact L.out | exact L.out.alloc L.out.size _))).mono ?_); rintro e w_ ⟨rfl, hb_⟩; replace L := Aside.mk ((by first | exact L.out | exact L.out.alloc L.out.size _ : Below w.heap.size w _).trans (hb_.mono (by first | exact L.out.size | (simp; have := L.out.size; omega)))); replace M0 := Aside.mk ((by first | exact M0.out | exact M0.out.old _ : Blk _ b0 #[.bool false, .bool true, .bool false, .bool false, .bool false, .int .i64 0, .int .i64 n, .int .i64 0, .int .i64 0, .int .i64 0, .string ⟨#[]⟩, .string ⟨#[]⟩, .string ⟨#[]⟩, .string ⟨#[]⟩] 25).below hb_); have M1 := Aside.mk (blk_named hb_ b1 hn1); clear hn1; obtain ⟨b2, hn2⟩ : ∃ b, w_.heap.size = b := ⟨_, rfl⟩; clear hb_) | (go_at_call 16; (with_reducible refine (p3 _ (hl.next (by first | exact L.out | exact L.out.alloc L.out.size _))).mono ?_); rintro e w_ ⟨rfl, hb_⟩; replace L := Aside.mk ((by first | exact L.out | exact L.out.alloc L.out.size _ : Below w.heap.size w _).trans (hb_.mono (by first | exact L.out.size | (simp; have := L.out.size; omega)))); replace M0 := Aside.mk ((by first | exact M0.out | exact M0.out.old _ : Blk _ b0 #[.bool false, .bool true, .bool false, .bool false, .bool false, .int .i64 0, .int .i64 n, .int .i64 0, .int .i64 0, .int .i64 0, .string ⟨#[]⟩, .string ⟨#[]⟩, .string ⟨#[]⟩, .string ⟨#[]⟩] 25).below hb_); replace M1 := Aside.mk ((by first | exact M1.out | exact M1.out.old _ : Blk _ b1 #[.bool false, .bool false, .bool false, .bool false, .bool false, .int .i64 0, .int .i64 0, .int .i64 0, .int .i64 0, .int .i64 0, .string ⟨#[]⟩, .string ⟨#[]⟩, .string ⟨#[]⟩, .string ⟨#[]⟩] 25).below hb_); have M2 := Aside.mk (blk_named hb_ b2 hn2); clear hn2; obtain ⟨b3, hn3⟩ : ∃ b, w_.heap.size = b := ⟨_, rfl⟩; clear hb_) | (go_at_call 16; (with_reducible refine (p4 _ (hl.next (by first | exact L.out | exact L.out.alloc L.out.size _))).mono ?_); rintro e w_ ⟨rfl, hb_⟩; replace L := Aside.mk ((by first | exact L.out | exact L.out.alloc L.out.size _ : Below w.heap.size w _).trans (hb_.mono (by first | exact L.out.size | (simp; have := L.out.size; omega)))); replace M0 := Aside.mk ((by first | exact M0.out | exact M0.out.old _ : Blk _ b0 #[.bool false, .bool true, .bool false, .bool false, .bool false, .int .i64 0, .int .i64 n, .int .i64 0, .int .i64 0, .int .i64 0, .string ⟨#[]⟩, .string ⟨#[]⟩, .string ⟨#[]⟩, .string ⟨#[]⟩] 25).below hb_); replace M1 := Aside.mk ((by first | exact M1.out | exact M1.out.old _ : Blk _ b1 #[.bool false, .bool false, .bool false, .bool false, .bool false, .int .i64 0, .int .i64 0, .int .i64 0, .int .i64 0, .int .i64 0, .string ⟨#[]⟩, .string ⟨#[]⟩, .string ⟨#[]⟩, .string ⟨#[]⟩] 25).below hb_); replace M2 := Aside.mk ((by first | exact M2.out | exact M2.out.old _ : Blk _ b2 #[.bool false, .bool false, .bool false, .bool true, .bool false, .int .i64 0, .int .i64 0, .int .i64 0, .int .i64 n, .int .i64 0, .string ⟨#[]⟩, .string ⟨#[]⟩, .string ⟨#[]⟩, .string ⟨#[82]⟩] 25).below hb_); have M3 := Aside.mk (blk_named hb_ b3 hn3); clear hn3; have x0_6 := Blk.cell M0.out 6 _ rfl; have x1_9 := Blk.cell M1.out 9 _ rfl; have x2_8 := Blk.cell M2.out 8 _ rfl; have x3_8 := Blk.cell M3.out 8 _ rfl; have x3_13 := Blk.cell M3.out 13 _ rfl; have l0 := Blk.lt M0.out; have l1 := Blk.lt M1.out; have l2 := Blk.lt M2.out; have l3 := Blk.lt M3.out; clear hb_))
  all_goals
    go_ret
    exact ⟨rfl, by first | exact L.out | exact L.out.alloc L.out.size _⟩
set_option maxHeartbeats 16000000 in
theorem rng_c6 (n : Int) (h0 : -999999999 ≤ n) (h1 : n ≤ 999999999) (hn : 1048576 < n) (w : World) (hl : Lv w) : Calls Tryz.prog 6 #[.int .i64 n] w fun e w' => e = .returned (.bool true) ∧ Below w.heap.size w w' := by
  have haw := fun W (hW : Lv W) => awake_any W hW
  have hdg := fun W => digits_all n (by omega) (by omega) W
  have hdl := Lib.itoa_length_le n (by omega) (by omega)
  obtain ⟨s, hs⟩ : ∃ s : ByteArray, (⟨(Lib.itoa n).toArray⟩ : ByteArray) = s := ⟨_, rfl⟩
  have hsz : s.size ≤ 21 := by rw [← hs]; exact hdl
  rw [hs] at hdg
  clear hdl
  have p0 : ∀ W, Lv W → Calls Tryz.prog 16 #[.string (⟨#[72, 79, 76, 68, 70, 79, 82, 61]⟩ ++ s)] W fun e w' => e = .returned (.tuple #[.agg #[.bool false, .bool false, .bool false, .bool false, .bool false, .int .i64 0, .int .i64 0, .int .i64 0, .int .i64 0, .int .i64 0, .string ⟨#[]⟩, .string ⟨#[]⟩, .string ⟨#[]⟩, .string ⟨#[]⟩], .int .i64 1]) ∧ Below W.heap.size W w' := by
    intro W hW
    have h := parseMail_any (⟨#[72, 79, 76, 68, 70, 79, 82, 61]⟩ ++ s) (small1 _ _ (by decide) hsz) W hW
    rw [pr_for n s hs.symm (by omega) (by omega)] at h
    rw [if_neg (by omega), if_pos (by omega)] at h
    exact h
  have p1 : ∀ W, Lv W → Calls Tryz.prog 16 #[.string (⟨#[77, 84, 45, 80, 82, 73, 79, 82, 73, 84, 89, 61]⟩ ++ s)] W fun e w' => e = .returned (.tuple #[.agg #[.bool false, .bool false, .bool false, .bool false, .bool false, .int .i64 0, .int .i64 0, .int .i64 0, .int .i64 0, .int .i64 0, .string ⟨#[]⟩, .string ⟨#[]⟩, .string ⟨#[]⟩, .string ⟨#[]⟩], .int .i64 1]) ∧ Below W.heap.size W w' := by
    intro W hW
    have h := parseMail_any (⟨#[77, 84, 45, 80, 82, 73, 79, 82, 73, 84, 89, 61]⟩ ++ s) (small1 _ _ (by decide) hsz) W hW
    rw [pr_pri n s hs.symm (by omega) (by omega)] at h
    rw [if_pos (by omega)] at h
    exact h
  have p2 : ∀ W, Lv W → Calls Tryz.prog 16 #[.string (⟨#[66, 89, 61]⟩ ++ s ++ ⟨#[59, 82]⟩)] W fun e w' => e = .returned (.tuple #[.agg #[.bool false, .bool false, .bool false, .bool true, .bool false, .int .i64 0, .int .i64 0, .int .i64 0, .int .i64 n, .int .i64 0, .string ⟨#[]⟩, .string ⟨#[]⟩, .string ⟨#[]⟩, .string ⟨#[82]⟩], .int .i64 0]) ∧ Below W.heap.size W w' := by
    intro W hW
    have h := parseMail_any (⟨#[66, 89, 61]⟩ ++ s ++ ⟨#[59, 82]⟩) (small2 _ _ _ (by decide) hsz (by decide)) W hW
    rw [pr_by n s hs.symm (by omega) (by omega) 82 (.inl rfl) 1 rfl] at h
    rw [if_neg (by omega)] at h
    exact h
  have p3 : ∀ W, Lv W → Calls Tryz.prog 16 #[.string (⟨#[66, 89, 61]⟩ ++ s ++ ⟨#[59, 78]⟩)] W fun e w' => e = .returned (.tuple #[.agg #[.bool false, .bool false, .bool false, .bool true, .bool false, .int .i64 0, .int .i64 0, .int .i64 0, .int .i64 n, .int .i64 0, .string ⟨#[]⟩, .string ⟨#[]⟩, .string ⟨#[]⟩, .string ⟨#[78]⟩], .int .i64 0]) ∧ Below W.heap.size W w' := by
    intro W hW
    have h := parseMail_any (⟨#[66, 89, 61]⟩ ++ s ++ ⟨#[59, 78]⟩) (small2 _ _ _ (by decide) hsz (by decide)) W hW
    rw [pr_by n s hs.symm (by omega) (by omega) 78 (.inr rfl) (-999999999) rfl] at h
    rw [if_neg (by omega)] at h
    exact h
  have p4 : ∀ W, Lv W → Calls Tryz.prog 16 #[.string (⟨#[83, 73, 90, 69, 61]⟩ ++ s)] W fun e w' => e = .returned (.tuple #[.agg #[.bool true, .bool false, .bool false, .bool false, .bool false, .int .i64 n, .int .i64 0, .int .i64 0, .int .i64 0, .int .i64 0, .string ⟨#[]⟩, .string ⟨#[]⟩, .string ⟨#[]⟩, .string ⟨#[]⟩], .int .i64 0]) ∧ Below W.heap.size W w' := by
    intro W hW
    have h := parseMail_any (⟨#[83, 73, 90, 69, 61]⟩ ++ s) (small1 _ _ (by decide) hsz) W hW
    rw [pr_size n s hs.symm (by omega) (by omega)] at h
    rw [if_neg (by omega)] at h
    exact h
  have g1 : ¬ 9223372036854775807 < 8 + s.size := by omega
  have g2 : ¬ 9223372036854775807 < 12 + s.size := by omega
  have g3 : ¬ 9223372036854775807 < 3 + s.size := by omega
  have g4 : ¬ 9223372036854775807 < 3 + s.size + 2 := by omega
  have g5 : ¬ 9223372036854775807 < 5 + s.size := by omega
  clear hs
  have L : Aside (Below w.heap.size w w) := ⟨Below.refl _ _⟩
  go_enter Tryz.func6, Tryz.ntmps6
  go_wp2_with (first | (go_at_call 7; (with_reducible refine (haw _ hl).mono ?_); rintro e w_ ⟨rfl, hb_⟩; replace L := Aside.mk ((by first | exact L.out | exact L.out.alloc L.out.size _ : Below w.heap.size w _).trans (hb_.mono (by first | exact L.out.size | (simp; have := L.out.size; omega)))); clear hb_) | (go_at_call 19; (with_reducible refine (hdg _).mono ?_); rintro e w_ ⟨rfl, hb_⟩; replace L := Aside.mk ((by first | exact L.out | exact L.out.alloc L.out.size _ : Below w.heap.size w _).trans (hb_.mono (by first | exact L.out.size | (simp; have := L.out.size; omega)))); clear hb_) | (go_at_call 16; (with_reducible refine (p0 _ (hl.next (by first | exact L.out | exact L.out.alloc L.out.size _))).mono ?_); rintro e w_ ⟨rfl, hb_⟩; replace L := Aside.mk ((by first | exact L.out | exact L.out.alloc L.out.size _ : Below w.heap.size w _).trans (hb_.mono (by first | exact L.out.size | (simp; have := L.out.size; omega)))); obtain ⟨b0, hn0⟩ : ∃ b, w_.heap.size = b := ⟨_, rfl⟩; clear hb_) | (go_at_call 16; (with_reducible refine (p1 _ (hl.next (by first | exact L.out | exact L.out.alloc L.out.size _))).mono ?_); rintro e w_ ⟨rfl, hb_⟩; replace L := Aside.mk ((by first | exact L.out | exact L.out.alloc L.out.size _ : Below w.heap.size w _).trans (hb_.mono (by first | exact L.out.size | (simp; have := L.out.size; omega)))); have M0 := Aside.mk (blk_named hb_ b0 hn0); clear hn0; obtain ⟨b1, hn1⟩ : ∃ b, w_.heap.size = b := ⟨_, rfl⟩; clear hb_) | (go_at_call 16; (with_reducible refine (p2 _ (hl.next (by first | exact L.out | exact L.out.alloc L.out.size _))).mono ?_); rintro e w_ ⟨rfl, hb_⟩; replace L := Aside.mk ((by first | exact L.out | exact L.out.alloc L.out.size _ : Below w.heap.size w _).trans (hb_.mono (by first | exact L.out.size | (simp; have := L.out.size; omega)))); replace M0 := Aside.mk ((by first | exact M0.out | exact M0.out.old _ : Blk _ b0 #[.bool false, .bool false, .bool false, .bool false, .bool false, .int .i64 0, .int .i64 0, .int .i64 0, .int .i64 0, .int .i64 0, .string ⟨#[]⟩, .string ⟨#[]⟩, .string ⟨#[]⟩, .string ⟨#[]⟩] 25).below hb_); have M1 := Aside.mk (blk_named hb_ b1 hn1); clear hn1; obtain ⟨b2, hn2⟩ : ∃ b, w_.heap.size = b := ⟨_, rfl⟩; clear hb_) | (go_at_call 16; (with_reducible refine (p3 _ (hl.next (by first | exact L.out | exact L.out.alloc L.out.size _))).mono ?_); rintro e w_ ⟨rfl, hb_⟩; replace L := Aside.mk ((by first | exact L.out | exact L.out.alloc L.out.size _ : Below w.heap.size w _).trans (hb_.mono (by first | exact L.out.size | (simp; have := L.out.size; omega)))); replace M0 := Aside.mk ((by first | exact M0.out | exact M0.out.old _ : Blk _ b0 #[.bool false, .bool false, .bool false, .bool false, .bool false, .int .i64 0, .int .i64 0, .int .i64 0, .int .i64 0, .int .i64 0, .string ⟨#[]⟩, .string ⟨#[]⟩, .string ⟨#[]⟩, .string ⟨#[]⟩] 25).below hb_); replace M1 := Aside.mk ((by first | exact M1.out | exact M1.out.old _ : Blk _ b1 #[.bool false, .bool false, .bool false, .bool false, .bool false, .int .i64 0, .int .i64 0, .int .i64 0, .int .i64 0, .int .i64 0, .string ⟨#[]⟩, .string ⟨#[]⟩, .string ⟨#[]⟩, .string ⟨#[]⟩] 25).below hb_); have M2 := Aside.mk (blk_named hb_ b2 hn2); clear hn2; obtain ⟨b3, hn3⟩ : ∃ b, w_.heap.size = b := ⟨_, rfl⟩; clear hb_) | (go_at_call 16; (with_reducible refine (p4 _ (hl.next (by first | exact L.out | exact L.out.alloc L.out.size _))).mono ?_); rintro e w_ ⟨rfl, hb_⟩; replace L := Aside.mk ((by first | exact L.out | exact L.out.alloc L.out.size _ : Below w.heap.size w _).trans (hb_.mono (by first | exact L.out.size | (simp; have := L.out.size; omega)))); replace M0 := Aside.mk ((by first | exact M0.out | exact M0.out.old _ : Blk _ b0 #[.bool false, .bool false, .bool false, .bool false, .bool false, .int .i64 0, .int .i64 0, .int .i64 0, .int .i64 0, .int .i64 0, .string ⟨#[]⟩, .string ⟨#[]⟩, .string ⟨#[]⟩, .string ⟨#[]⟩] 25).below hb_); replace M1 := Aside.mk ((by first | exact M1.out | exact M1.out.old _ : Blk _ b1 #[.bool false, .bool false, .bool false, .bool false, .bool false, .int .i64 0, .int .i64 0, .int .i64 0, .int .i64 0, .int .i64 0, .string ⟨#[]⟩, .string ⟨#[]⟩, .string ⟨#[]⟩, .string ⟨#[]⟩] 25).below hb_); replace M2 := Aside.mk ((by first | exact M2.out | exact M2.out.old _ : Blk _ b2 #[.bool false, .bool false, .bool false, .bool true, .bool false, .int .i64 0, .int .i64 0, .int .i64 0, .int .i64 n, .int .i64 0, .string ⟨#[]⟩, .string ⟨#[]⟩, .string ⟨#[]⟩, .string ⟨#[82]⟩] 25).below hb_); have M3 := Aside.mk (blk_named hb_ b3 hn3); clear hn3; have x0_6 := Blk.cell M0.out 6 _ rfl; have x1_9 := Blk.cell M1.out 9 _ rfl; have x2_8 := Blk.cell M2.out 8 _ rfl; have x3_8 := Blk.cell M3.out 8 _ rfl; have x3_13 := Blk.cell M3.out 13 _ rfl; have l0 := Blk.lt M0.out; have l1 := Blk.lt M1.out; have l2 := Blk.lt M2.out; have l3 := Blk.lt M3.out; clear hb_))
  all_goals
    go_ret
    exact ⟨rfl, by first | exact L.out | exact L.out.alloc L.out.size _⟩
theorem rng_out (n : Int) (hn : n < -999999999 ∨ 999999999 < n) (w : World) (hl : Lv w) : Calls Tryz.prog 6 #[.int .i64 n] w fun e w' => e = .returned (.bool true) ∧ Below w.heap.size w w' := by
  have haw := fun W (hW : Lv W) => awake_any W hW
  rcases hn with hn | hn
  · go_enter Tryz.func6, Tryz.ntmps6
    go_wp2_with (go_at_call 7; (with_reducible refine (haw _ hl).mono ?_); rintro e w_ ⟨rfl, hb_⟩)
    go_ret
    exact ⟨rfl, hb_⟩
  · have hn2 : ¬ n < -999999999 := by omega
    go_enter Tryz.func6, Tryz.ntmps6
    go_wp2_with (go_at_call 7; (with_reducible refine (haw _ hl).mono ?_); rintro e w_ ⟨rfl, hb_⟩)
    go_ret
    exact ⟨rfl, hb_⟩
theorem ranges_any (n : Int) (w : World) (hl : Lv w) : Calls Tryz.prog 6 #[.int .i64 n] w fun e w' => e = .returned (.bool true) ∧ Below w.heap.size w w' := by
  by_cases h : n < -999999999 ∨ 999999999 < n
  · exact rng_out n h w hl
  · rcases (show n < -9 ∨ (-9 ≤ n ∧ n < 0) ∨ n = 0 ∨ (1 ≤ n ∧ n ≤ 9) ∨ (10 ≤ n ∧ n ≤ 1048576) ∨ 1048576 < n by omega) with k | k | k | k | k | k
    · exact rng_c1 n (by omega) (by omega) k w hl
    · exact rng_c2 n (by omega) (by omega) k w hl
    · exact rng_c3 n (by omega) (by omega) k w hl
    · exact rng_c4 n (by omega) (by omega) k w hl
    · exact rng_c5 n (by omega) (by omega) k w hl
    · exact rng_c6 n (by omega) (by omega) k w hl
theorem ranges_row (W : World) (hl : Lv W) (n : Int) (_wf : (Lit.int .i64 n).wf = true) : Calls Tryz.prog 6 #[.int .i64 n] W fun e w' => e = .returned (.bool true) ∧ Below W.heap.size W w' := ranges_any n W hl
end Go.Proofs.YtfffdbjfhdkheaaGreatDoor
