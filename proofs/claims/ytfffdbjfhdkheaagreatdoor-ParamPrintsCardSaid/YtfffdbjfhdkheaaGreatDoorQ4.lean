/-
  Walks of the package param: ParseRcpt.
  Plain laws of the words: numbers printed and read, a text of one word.
-/
import Derived.Test.YtfffdbjfhdkheaaGreatDoorQPmParM
import Derived.Test.YtfffdbjfhdkheaaGreatDoorQ2
import Derived.Lib.ItoaNum
section
set_option linter.unusedVariables false
set_option linter.unusedSimpArgs false
namespace Go.Proofs.YtfffdbjfhdkheaaGreatDoor
open Go.RowKit Go.Shelf Pm
set_option maxRecDepth 100000
namespace Pm
def rcptKeys (H : Nat) : List (Key Rc) := [⟨⟨#[78, 79, 84, 73, 70, 89]⟩, 55, #[.pointer (some ⟨H + 1, 0, none⟩)], stNt⟩, ⟨⟨#[79, 82, 67, 80, 84]⟩, 57, #[.pointer (some ⟨H + 1, 0, none⟩)], stOc⟩]
def rcptPlain : List (Key Rc) := [⟨⟨#[78, 79, 84, 73, 70, 89]⟩, 0, #[], stNt⟩, ⟨⟨#[79, 82, 67, 80, 84]⟩, 0, #[], stOc⟩]
theorem rcpt_plain (H : Nat) : (rcptKeys H).map Key.plain = rcptPlain := rfl
/-- What is parsed of a text. -/
def parseRcpt (t : ByteArray) : Rc × Int := if (wordsAll rcptPlain t Rc.zero).2 ≠ 0 then (Rc.zero, (wordsAll rcptPlain t Rc.zero).2) else ((wordsAll rcptPlain t Rc.zero).1, 0)
end Pm
/-- In ParseRcpt: the blocks that its closures keep. -/
structure RcS (w : World) (H : Nat) (m : Rc) (W : World) : Prop where
  low : Below H w W
  res : Blk W H Rc.zero.cells 27
  box : Blk W (H + 1) m.cells 27
theorem RcS.chg {w : World} {H : Nat} {m : Rc} {W W' : World} {K : Nat → Prop} (h : RcS w H m W) (hH : H ≤ W.heap.size) (k : Chg K W W') (hk : ∀ i, K i → H + 3 ≤ i) : RcS w H m W' :=
  ⟨k.below h.low (fun i q => by have := hk i q; omega) hH, h.res.chg k (fun q => by have := hk _ q; omega), h.box.chg k (fun q => by have := hk _ q; omega)⟩
theorem RcS.put {w : World} {H : Nat} {m m' : Rc} {W W' : World} (h : RcS w H m W) (k : Chg (fun i => i = H + 1) W W') (hb : Blk W' (H + 1) m'.cells 27) : RcS w H m' W' :=
  ⟨k.below h.low (fun i q => by omega) (Nat.le_of_lt h.res.lt), h.res.chg k (fun q => by omega), hb⟩
theorem rcpt_class (w : World) (hl : Lv w) (H : Nat) (hH : w.heap.size = H) : WClass (H + 3) (H + 2) (rcptKeys H) (fun m W => RcS w H m W) := by
  have hlv : ∀ {m : Rc} {W : World}, RcS w H m W → Lv W := fun h => hl.next (hH ▸ h.low)
  have hge : ∀ {m : Rc} {W : World}, RcS w H m W → H ≤ W.heap.size := fun h => Nat.le_of_lt h.res.lt
  refine ⟨fun s W h => hlv h, fun s W W' h k => h.chg (hge h) k (fun i q => q), ?_, ?_⟩
  · intro K hK
    simp only [rcptKeys, List.mem_cons, List.not_mem_nil, or_false] at hK
    rcases hK with rfl | rfl
    · exact enters_of Tryz.func55 (by kernel_rfl) rfl
    · exact enters_of Tryz.func57 (by kernel_rfl) rfl
  · intro K hK v m W hW hsz hv
    have hch : ∀ {W' : World}, Chg (fun k => k = H + 1) W W' → Chg (fun k => k < H + 3 ∧ k ≠ H + 2) W W' := fun h => h.mono fun i _ q => ⟨by omega, by omega⟩
    simp only [rcptKeys, List.mem_cons, List.not_mem_nil, or_false] at hK
    rcases hK with rfl | rfl
    · exact (cl_nt v (H + 1) m W hW.box hv (hlv hW)).mono fun _ _ ⟨h1, h2, h3⟩ => ⟨h1, hW.put h3 h2, hch h3⟩
    · exact (cl_oc v (H + 1) m W hW.box hv (hlv hW)).mono fun _ _ ⟨h1, h2, h3⟩ => ⟨h1, hW.put h3 h2, hch h3⟩
theorem rc_one (m : Rc) : m.cells.all (·.oneCell') = true := by simp [Rc.cells, Value.oneCell']
set_option maxHeartbeats 8000000 in
theorem parseRcpt_any (s : ByteArray) (hs : s.size ≤ 100000000) (w : World) (hl : Lv w) :
    Calls Tryz.prog 17 #[.string s] w fun e w' => e = .returned (.tuple #[.agg (Pm.parseRcpt s).1.cells, .int .i64 (Pm.parseRcpt s).2]) ∧ Below w.heap.size w w' := by
  obtain ⟨H, hH⟩ : ∃ H, w.heap.size = H := ⟨_, rfl⟩
  have HC := Aside.mk (rcpt_class w hl H hH)
  have hmm := @run_makeMap Tryz.prog
  have B0 := ((MB.alloc (w := w) (H := H) (L := []) (W := w) ⟨Below.refl _ w, by omega, by simp⟩ H hH (by omega) Rc.zero.cells 27).alloc (H + 1) (by simp [hH]) (by omega) Rc.zero.cells 27).mapped (.map #[] 0)
  clear hl
  rw [hH]
  go_enter Tryz.func17, Tryz.ntmps17
  go_wp2_with (first | (refine insert_map rfl 82 9 72 Tryz.underlying82 Tryz.underlying9 _ _ _ (by rfl) (H + 2) (by rfl) ⟨#[78, 79, 84, 73, 70, 89]⟩ (by rfl) ((rcptKeys H)[0]'(by show 0 < 2; omega)).val (by rfl) (keyEnts 0 ((rcptKeys H).take 0)) 0 (heap_at (by simp [hH]) _) (by rfl) ?_; intro w_ hm_ hc_ hs_; have hz : w_.heap.size = H + 3 := hs_.trans (by simp [hH]); have M := Aside.mk hm_; have B := Aside.mk (B0.chg hc_); clear hm_ hc_ hs_ hmm) | (refine insert_map rfl 82 9 72 Tryz.underlying82 Tryz.underlying9 _ _ _ (by rfl) (H + 2) (by rfl) ⟨#[79, 82, 67, 80, 84]⟩ (by rfl) ((rcptKeys H)[1]'(by show 1 < 2; omega)).val (by rfl) (keyEnts 0 ((rcptKeys H).take 1)) 1 M.out (by rfl) ?_; intro w_ hm_ hc_ hs_; have hz2 : w_.heap.size = H + 3 := hs_.trans (by simp [hz]); have M2 := Aside.mk hm_; have B2 := Aside.mk (B.out.chg hc_); clear hm_ hc_ hs_; clear M; have M := M2; clear M2; clear B; have B := B2; clear B2; clear hz; have hz := hz2; clear hz2))
  have hM0 : RcS w H Rc.zero w_ := ⟨B.out.low, B.out.at (by simp), B.out.at (by simp)⟩
  refine (words_at (H + 3) s hs (H + 2) 2 (rcptKeys H) _ Rc.zero w_ hz (by omega) M.out HC.out hM0).mono ?_
  rintro e w2 ⟨rfl, hS⟩
  rw [← all_plain, rcpt_plain H] at hS
  have hq : wordsAll (rcptKeys H) s Rc.zero = wordsAll rcptPlain s Rc.zero := by rw [← all_plain, rcpt_plain H]
  rw [hq]
  obtain ⟨r, hr⟩ : ∃ r, wordsAll rcptPlain s Rc.zero = r := ⟨_, rfl⟩
  have HP : Pm.parseRcpt s = if r.2 ≠ 0 then (Rc.zero, r.2) else (r.1, 0) := by rw [← hr]; rfl
  rw [hr] at hS ⊢
  obtain ⟨m1, e1⟩ := r
  dsimp only at hS HP ⊢
  clear hq hr hM0 hz M B HC
  have S := Aside.mk hS
  clear hS
  have ee : Aside (e1 = 0) ∨ Aside (e1 ≠ 0) := by by_cases h : e1 = 0; exact .inl ⟨h⟩; exact .inr ⟨h⟩
  rcases ee with ee | ee
  · have e3 : (e1 == 0) = true := by simpa using ee.out
    have e4 : (e1 != 0) = false := by simpa using ee.out
    rw [if_neg (by simpa using ee.out)] at HP
    have HP := Lib.hid HP
    go_wp2_with (first | (refine load_blk rfl 27 _ (by rfl) (H + 1) (by rfl) m1.cells 27 _ S.out.box Tryz.underlying27 rfl (by kernel_rfl) ?_) | (refine store_blk rfl 27 _ _ (by rfl) H (by rfl) Rc.zero.cells m1.cells 27 S.out.res (by rfl) (by rfl) (by kernel_rfl) (rc_one _) ?_; intro w3 hb3 hc3))
    refine bodyPost_ret (results_blk rfl _ _ H rfl _ _ _ hb3 Tryz.underlying27 rfl (by kernel_rfl)) rfl ⟨by rw [HP.out]; rfl, hc3.below S.out.low (fun i q => by omega) (Nat.le_of_lt S.out.res.lt)⟩
  · have e3 : (e1 == 0) = false := by simpa using ee.out
    have e4 : (e1 != 0) = true := by simpa using ee.out
    rw [if_pos (by simpa using ee.out)] at HP
    have HP := Lib.hid HP
    go_wp2_with (refine store_blk rfl 27 _ _ (by rfl) H (by rfl) Rc.zero.cells Rc.zero.cells 27 S.out.res (by rfl) (by rfl) (by kernel_rfl) (rc_one _) ?_; intro w3 hb3 hc3)
    refine bodyPost_ret (results_blk rfl _ _ H rfl _ _ _ hb3 Tryz.underlying27 rfl (by kernel_rfl)) rfl ⟨by rw [HP.out]; rfl, hc3.below S.out.low (fun i q => by omega) (Nat.le_of_lt S.out.res.lt)⟩
end Go.Proofs.YtfffdbjfhdkheaaGreatDoor
end
section
set_option linter.unusedVariables false
set_option linter.unusedSimpArgs false
namespace Txt
theorem digit_of (u : Nat) (h : u < 10) : digit (UInt8.ofNat (48 + u)) = true ∧ ((UInt8.ofNat (48 + u)).toNat : Int) = 48 + u := by
  have : (UInt8.ofNat (48 + u)).toNat = 48 + u := by rw [UInt8.toNat_ofNat']; omega
  constructor
  · unfold digit; rw [this]; simp; omega
  · rw [this]; simp
theorem dec_digs : ∀ u : Nat, (Go.Lib.decDigits u).all digit = true ∧ dec (Go.Lib.decDigits u) = u ∧ Go.Lib.decDigits u ≠ [] := by
  intro u
  induction u using Nat.strongRecOn with
  | ind u ih =>
    rw [Go.Lib.decDigits]
    split
    · rename_i h
      have := digit_of u h
      refine ⟨by rw [List.all_cons, this.1]; rfl, ?_, by simp⟩
      show (10 * 0 + ((UInt8.ofNat (48 + u)).toNat : Int) - 48) = u
      omega
    · rename_i h
      have h1 := ih (u / 10) (by omega)
      have h2 := digit_of (u % 10) (by omega)
      refine ⟨by rw [List.all_append, h1.1, List.all_cons, h2.1]; rfl, ?_, by simp⟩
      rw [dec_snoc, h1.2.1]
      omega
theorem digs_len (k : Nat) : ∀ u : Nat, u < 10 ^ (k + 1) → (Go.Lib.decDigits u).length ≤ k + 1 := by
  induction k with
  | zero =>
    intro u h
    rw [Go.Lib.decDigits, dif_pos (by omega)]
    simp
  | succ k ih =>
    intro u h
    rw [Go.Lib.decDigits]
    split
    · simp
    · have h10 : 10 ^ (k + 1 + 1) = 10 ^ (k + 1) * 10 := Nat.pow_succ ..
      have := ih (u / 10) (by omega)
      simp
      omega
theorem number_digs (u : Nat) (h : u ≤ 999999999) : number (Go.Lib.decDigits u) = ((u : Int), 0) := by
  have h1 := dec_digs u
  have h2 := digs_len 8 u (by omega)
  unfold number
  rw [if_pos ⟨h1.2.2, h2, h1.1⟩, h1.2.1]
theorem number_itoa (n : Int) (h0 : 0 ≤ n) (h : n ≤ 999999999) : number (Go.Lib.itoa n) = (n, 0) := by
  unfold Go.Lib.itoa
  rw [if_neg (by omega), number_digs _ (by omega)]
  congr 1
  omega
theorem number_neg (n : Int) (h0 : n < 0) : number (Go.Lib.itoa n) = (0, 2) := by
  unfold Go.Lib.itoa number
  rw [if_pos h0, if_neg]
  rintro ⟨_, _, h⟩
  simp [digit] at h
theorem number_minus (l : List UInt8) : number (45 :: l) = (0, 2) := by
  unfold number
  rw [if_neg]
  rintro ⟨_, _, h⟩
  simp [digit] at h
/-- The digits of a number, and what they hold none of. -/
theorem itoa_signs (n : Int) : ∀ c ∈ Go.Lib.itoa n, c = 45 ∨ digit c = true := by
  intro c hc
  unfold Go.Lib.itoa at hc
  split at hc
  · rcases List.mem_cons.1 hc with rfl | hc
    · exact .inl rfl
    · exact .inr (List.all_eq_true.1 (dec_digs _).1 c hc)
  · exact .inr (List.all_eq_true.1 (dec_digs _).1 c hc)
theorem itoa_not (n : Int) (b : UInt8) (h1 : b ≠ 45) (h2 : digit b = false) : b ∉ Go.Lib.itoa n := fun h => by
  rcases itoa_signs n b h with h | h
  · exact h1 h
  · rw [h2] at h; cases h
end Txt
namespace Go.Proofs.YtfffdbjfhdkheaaGreatDoor
open Go.RowKit Go.Shelf Pm
set_option maxRecDepth 100000
namespace Pm
theorem signed_itoa (n : Int) (h0 : -999999999 ≤ n) (h : n ≤ 999999999) : signed (Lib.itoa n) = (n, 0) := by
  unfold signed
  by_cases hn : n < 0
  · have h1 : Lib.itoa n = 45 :: Lib.decDigits n.natAbs := by unfold Lib.itoa; rw [if_pos hn]
    have h2 : Lib.hasPrefix (Lib.itoa n) [45] = true := by rw [h1]; rfl
    have h3 : Lib.trimPrefix (Lib.itoa n) [45] = Lib.decDigits n.natAbs := by unfold Lib.trimPrefix; rw [if_pos h2, h1]; rfl
    rw [if_pos h2, h3, Txt.number_digs _ (by omega)]
    congr 1
    simp only
    omega
  · have h1 : Lib.itoa n = Lib.decDigits n.toNat := by unfold Lib.itoa; rw [if_neg hn]
    have h2 : Lib.hasPrefix (Lib.itoa n) [45] = false := by
      cases hl : Lib.hasPrefix (Lib.itoa n) [45] with
      | false => rfl
      | true =>
        rw [h1] at hl
        have hd := Txt.dec_digs n.toNat
        cases hx : Lib.decDigits n.toNat with
        | nil => exact absurd hx hd.2.2
        | cons c r =>
          rw [hx] at hl hd
          have hc : c = 45 := by have := hl; simp [Lib.hasPrefix] at this; exact this.symm
          subst hc
          simp [Txt.digit] at hd
    have h3 : Lib.trimPrefix (Lib.itoa n) [45] = Lib.itoa n := by unfold Lib.trimPrefix; rw [if_neg (by rw [h2]; simp)]
    rw [if_neg (by rw [h2]; simp), h3, Txt.number_itoa n (by omega) h]
/-- A text of one word. -/
theorem one_word {σ : Type} (ks : List (Key σ)) (k v : List UInt8) (h1 : 61 ∉ k) (h2 : 32 ∉ k ++ 61 :: v) (K : Key σ) (hf : findK ks ⟨(Txt.upper k).toArray⟩ = some K) (st : σ) :
    wordsAll ks ⟨(k ++ 61 :: v).toArray⟩ st = K.step ⟨v.toArray⟩ st := by
  have hl : (⟨(k ++ 61 :: v).toArray⟩ : ByteArray).data.toList = k ++ 61 :: v := rfl
  have hL : cutL ⟨(k ++ 61 :: v).toArray⟩ 61 = ⟨k.toArray⟩ := by unfold cutL; rw [hl, Tok.cut_eq, Tok.cut_at _ h1]
  have hR : cutR ⟨(k ++ 61 :: v).toArray⟩ 61 = ⟨v.toArray⟩ := by unfold cutR; rw [hl, Tok.cut_eq, Tok.cut_at _ h1]
  have hU : upB ⟨k.toArray⟩ = ⟨(Txt.upper k).toArray⟩ := rfl
  unfold wordsAll
  rw [if_neg (by rw [hl]; simp), parts_no (by rw [hl]; exact h2)]
  have hs : wordStep ks ⟨(k ++ 61 :: v).toArray⟩ [] st = (([⟨(Txt.upper k).toArray⟩], (K.step ⟨v.toArray⟩ st).1), (K.step ⟨v.toArray⟩ st).2) := by
    unfold wordStep
    rw [if_neg (by rw [hl]; simp), hL, hR, hU, hf]
    rfl
  unfold wordsRun
  rw [hs]
  simp only
  split
  · rename_i h0
    unfold wordsRun
    rw [← h0]
  · rfl
end Pm
end Go.Proofs.YtfffdbjfhdkheaaGreatDoor
end
