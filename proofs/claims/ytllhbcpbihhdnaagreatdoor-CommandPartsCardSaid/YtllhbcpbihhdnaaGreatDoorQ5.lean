/-
  Walks of the package param: ParseRcpt.
  Plain laws of the words: numbers printed and read, a text of one word.
  Plain laws of the words: what may be said of a message.
  Plain laws of the words: what was printed of a message is parsed.
  Plain laws of the words: what is parsed of any text may be printed; and so of a recipient's.
  Plain laws of the words: a recipient's.
  What a client says in a line, plain: commands, their parse and print.
  The words' contracts at whole structs; Small; two structs compared.
  Commands, plain: what was printed is parsed; what is parsed may be printed.
  Commands, plain: a line is parsed to its command; what is parsed has a line; small letters; the parts.
  Commands: Verbs, Verb, shown; what a domain, nothing, a text behind a verb tells.
  Commands: a text, a path behind a verb.
  Commands: a path behind a word.
  Commands: a message's, and a recipient's, line.
  Commands: from and to, whole.
  Commands: what each verb does: the table of methods.
  Commands: command.Parse.
  Commands, plain: small letters; a line is its path and its words; what begins with no verb.
  Commands compared: paths, words, whole commands.
  Commands: Print: what stands in the midst of it.
  Commands, plain: how long what is parsed, and printed, is.
-/
import Derived.Test.YtllhbcpbihhdnaaGreatDoorQPmParM
import Derived.Test.YtllhbcpbihhdnaaGreatDoorQ3
import Derived.Lib.ItoaNum
import Derived.Test.YtllhbcpbihhdnaaGreatDoorQ4
import Derived.Test.YtllhbcpbihhdnaaGreatDoorQ1
import Derived.Test.YtllhbcpbihhdnaaGreatDoorQPmPrR
import Derived.Lib.TrimByte
import Derived.Test.YtllhbcpbihhdnaaGreatDoorQ2
section
set_option linter.unusedVariables false
set_option linter.unusedSimpArgs false
namespace Go.Proofs.YtllhbcpbihhdnaaGreatDoor
open Go.RowKit Go.Shelf Pm
set_option maxRecDepth 100000
namespace Pm
def rcptKeys (H : Nat) : List (Key Rc) := [⟨⟨#[78, 79, 84, 73, 70, 89]⟩, 55, #[.pointer (some ⟨H + 1, 0, none⟩)], stNt⟩, ⟨⟨#[79, 82, 67, 80, 84]⟩, 57, #[.pointer (some ⟨H + 1, 0, none⟩)], stOc⟩]
def rcptPlain : List (Key Rc) := [⟨⟨#[78, 79, 84, 73, 70, 89]⟩, 0, #[], stNt⟩, ⟨⟨#[79, 82, 67, 80, 84]⟩, 0, #[], stOc⟩]
theorem rcpt_plain (H : Nat) : (rcptKeys H).map Key.plain = rcptPlain := rfl
/-- What is parsed of a text. -/
def parseRcpt (t : ByteArray) : Rc × Int := if (wordsAll rcptPlain t Rc.zero).2 ≠ 0 then (Rc.zero, (wordsAll rcptPlain t Rc.zero).2) else ((wordsAll rcptPlain t Rc.zero).1, 0)
end Pm
/-- In ParseRcpt: the blocks that its closures keep. -/
structure RcS (w : World) (H : Nat) (m : Rc) (W : World) : Prop where
  low : Below H w W
  res : Blk W H Rc.zero.cells 29
  box : Blk W (H + 1) m.cells 29
theorem RcS.chg {w : World} {H : Nat} {m : Rc} {W W' : World} {K : Nat → Prop} (h : RcS w H m W) (hH : H ≤ W.heap.size) (k : Chg K W W') (hk : ∀ i, K i → H + 3 ≤ i) : RcS w H m W' :=
  ⟨k.below h.low (fun i q => by have := hk i q; omega) hH, h.res.chg k (fun q => by have := hk _ q; omega), h.box.chg k (fun q => by have := hk _ q; omega)⟩
theorem RcS.put {w : World} {H : Nat} {m m' : Rc} {W W' : World} (h : RcS w H m W) (k : Chg (fun i => i = H + 1) W W') (hb : Blk W' (H + 1) m'.cells 29) : RcS w H m' W' :=
  ⟨k.below h.low (fun i q => by omega) (Nat.le_of_lt h.res.lt), h.res.chg k (fun q => by omega), hb⟩
theorem rcpt_class (w : World) (hl : Lv w) (H : Nat) (hH : w.heap.size = H) : WClass (H + 3) (H + 2) (rcptKeys H) (fun m W => RcS w H m W) := by
  have hlv : ∀ {m : Rc} {W : World}, RcS w H m W → Lv W := fun h => hl.next (hH ▸ h.low)
  have hge : ∀ {m : Rc} {W : World}, RcS w H m W → H ≤ W.heap.size := fun h => Nat.le_of_lt h.res.lt
  refine ⟨fun s W h => hlv h, fun s W W' h k => h.chg (hge h) k (fun i q => q), ?_, ?_⟩
  · intro K hK
    simp only [rcptKeys, List.mem_cons, List.not_mem_nil, or_false] at hK
    rcases hK with rfl | rfl
    · exact enters_of Tryz.func55 (by kernel_rfl) rfl
    · exact enters_of Tryz.func57 (by kernel_rfl) rfl
  · intro K hK v m W hW hsz hv
    have hch : ∀ {W' : World}, Chg (fun k => k = H + 1) W W' → Chg (fun k => k < H + 3 ∧ k ≠ H + 2) W W' := fun h => h.mono fun i _ q => ⟨by omega, by omega⟩
    simp only [rcptKeys, List.mem_cons, List.not_mem_nil, or_false] at hK
    rcases hK with rfl | rfl
    · exact (cl_nt v (H + 1) m W hW.box hv (hlv hW)).mono fun _ _ ⟨h1, h2, h3⟩ => ⟨h1, hW.put h3 h2, hch h3⟩
    · exact (cl_oc v (H + 1) m W hW.box hv (hlv hW)).mono fun _ _ ⟨h1, h2, h3⟩ => ⟨h1, hW.put h3 h2, hch h3⟩
theorem rc_one (m : Rc) : m.cells.all (·.oneCell') = true := by simp [Rc.cells, Value.oneCell']
set_option maxHeartbeats 8000000 in
theorem parseRcpt_any (s : ByteArray) (hs : s.size ≤ 100000000) (w : World) (hl : Lv w) :
    Calls Tryz.prog 14 #[.string s] w fun e w' => e = .returned (.tuple #[.agg (Pm.parseRcpt s).1.cells, .int .i64 (Pm.parseRcpt s).2]) ∧ Below w.heap.size w w' := by
  obtain ⟨H, hH⟩ : ∃ H, w.heap.size = H := ⟨_, rfl⟩
  have HC := Aside.mk (rcpt_class w hl H hH)
  have hmm := @run_makeMap Tryz.prog
  have B0 := ((MB.alloc (w := w) (H := H) (L := []) (W := w) ⟨Below.refl _ w, by omega, by simp⟩ H hH (by omega) Rc.zero.cells 29).alloc (H + 1) (by simp [hH]) (by omega) Rc.zero.cells 29).mapped (.map #[] 0)
  clear hl
  rw [hH]
  go_enter Tryz.func14, Tryz.ntmps14
  go_wp2_with (first | (refine insert_map rfl 81 9 73 Tryz.underlying81 Tryz.underlying9 _ _ _ (by rfl) (H + 2) (by rfl) ⟨#[78, 79, 84, 73, 70, 89]⟩ (by rfl) ((rcptKeys H)[0]'(by show 0 < 2; omega)).val (by rfl) (keyEnts 0 ((rcptKeys H).take 0)) 0 (heap_at (by simp [hH]) _) (by rfl) ?_; intro w_ hm_ hc_ hs_; have hz : w_.heap.size = H + 3 := hs_.trans (by simp [hH]); have M := Aside.mk hm_; have B := Aside.mk (B0.chg hc_); clear hm_ hc_ hs_ hmm) | (refine insert_map rfl 81 9 73 Tryz.underlying81 Tryz.underlying9 _ _ _ (by rfl) (H + 2) (by rfl) ⟨#[79, 82, 67, 80, 84]⟩ (by rfl) ((rcptKeys H)[1]'(by show 1 < 2; omega)).val (by rfl) (keyEnts 0 ((rcptKeys H).take 1)) 1 M.out (by rfl) ?_; intro w_ hm_ hc_ hs_; have hz2 : w_.heap.size = H + 3 := hs_.trans (by simp [hz]); have M2 := Aside.mk hm_; have B2 := Aside.mk (B.out.chg hc_); clear hm_ hc_ hs_; clear M; have M := M2; clear M2; clear B; have B := B2; clear B2; clear hz; have hz := hz2; clear hz2))
  have hM0 : RcS w H Rc.zero w_ := ⟨B.out.low, B.out.at (by simp), B.out.at (by simp)⟩
  refine (words_at (H + 3) s hs (H + 2) 2 (rcptKeys H) _ Rc.zero w_ hz (by omega) M.out HC.out hM0).mono ?_
  rintro e w2 ⟨rfl, hS⟩
  rw [← all_plain, rcpt_plain H] at hS
  have hq : wordsAll (rcptKeys H) s Rc.zero = wordsAll rcptPlain s Rc.zero := by rw [← all_plain, rcpt_plain H]
  rw [hq]
  obtain ⟨r, hr⟩ : ∃ r, wordsAll rcptPlain s Rc.zero = r := ⟨_, rfl⟩
  have HP : Pm.parseRcpt s = if r.2 ≠ 0 then (Rc.zero, r.2) else (r.1, 0) := by rw [← hr]; rfl
  rw [hr] at hS ⊢
  obtain ⟨m1, e1⟩ := r
  dsimp only at hS HP ⊢
  clear hq hr hM0 hz M B HC
  have S := Aside.mk hS
  clear hS
  have ee : Aside (e1 = 0) ∨ Aside (e1 ≠ 0) := by by_cases h : e1 = 0; exact .inl ⟨h⟩; exact .inr ⟨h⟩
  rcases ee with ee | ee
  · have e3 : (e1 == 0) = true := by simpa using ee.out
    have e4 : (e1 != 0) = false := by simpa using ee.out
    rw [if_neg (by simpa using ee.out)] at HP
    have HP := Lib.hid HP
    go_wp2_with (first | (refine load_blk rfl 29 _ (by rfl) (H + 1) (by rfl) m1.cells 29 _ S.out.box Tryz.underlying29 rfl (by kernel_rfl) ?_) | (refine store_blk rfl 29 _ _ (by rfl) H (by rfl) Rc.zero.cells m1.cells 29 S.out.res (by rfl) (by rfl) (by kernel_rfl) (rc_one _) ?_; intro w3 hb3 hc3))
    refine bodyPost_ret (results_blk rfl _ _ H rfl _ _ _ hb3 Tryz.underlying29 rfl (by kernel_rfl)) rfl ⟨by rw [HP.out]; rfl, hc3.below S.out.low (fun i q => by omega) (Nat.le_of_lt S.out.res.lt)⟩
  · have e3 : (e1 == 0) = false := by simpa using ee.out
    have e4 : (e1 != 0) = true := by simpa using ee.out
    rw [if_pos (by simpa using ee.out)] at HP
    have HP := Lib.hid HP
    go_wp2_with (refine store_blk rfl 29 _ _ (by rfl) H (by rfl) Rc.zero.cells Rc.zero.cells 29 S.out.res (by rfl) (by rfl) (by kernel_rfl) (rc_one _) ?_; intro w3 hb3 hc3)
    refine bodyPost_ret (results_blk rfl _ _ H rfl _ _ _ hb3 Tryz.underlying29 rfl (by kernel_rfl)) rfl ⟨by rw [HP.out]; rfl, hc3.below S.out.low (fun i q => by omega) (Nat.le_of_lt S.out.res.lt)⟩
end Go.Proofs.YtllhbcpbihhdnaaGreatDoor
end
section
set_option linter.unusedVariables false
set_option linter.unusedSimpArgs false
namespace Txt
theorem digit_of (u : Nat) (h : u < 10) : digit (UInt8.ofNat (48 + u)) = true ∧ ((UInt8.ofNat (48 + u)).toNat : Int) = 48 + u := by
  have : (UInt8.ofNat (48 + u)).toNat = 48 + u := by rw [UInt8.toNat_ofNat']; omega
  constructor
  · unfold digit; rw [this]; simp; omega
  · rw [this]; simp
theorem dec_digs : ∀ u : Nat, (Go.Lib.decDigits u).all digit = true ∧ dec (Go.Lib.decDigits u) = u ∧ Go.Lib.decDigits u ≠ [] := by
  intro u
  induction u using Nat.strongRecOn with
  | ind u ih =>
    rw [Go.Lib.decDigits]
    split
    · rename_i h
      have := digit_of u h
      refine ⟨by rw [List.all_cons, this.1]; rfl, ?_, by simp⟩
      show (10 * 0 + ((UInt8.ofNat (48 + u)).toNat : Int) - 48) = u
      omega
    · rename_i h
      have h1 := ih (u / 10) (by omega)
      have h2 := digit_of (u % 10) (by omega)
      refine ⟨by rw [List.all_append, h1.1, List.all_cons, h2.1]; rfl, ?_, by simp⟩
      rw [dec_snoc, h1.2.1]
      omega
theorem digs_len (k : Nat) : ∀ u : Nat, u < 10 ^ (k + 1) → (Go.Lib.decDigits u).length ≤ k + 1 := by
  induction k with
  | zero =>
    intro u h
    rw [Go.Lib.decDigits, dif_pos (by omega)]
    simp
  | succ k ih =>
    intro u h
    rw [Go.Lib.decDigits]
    split
    · simp
    · have h10 : 10 ^ (k + 1 + 1) = 10 ^ (k + 1) * 10 := Nat.pow_succ ..
      have := ih (u / 10) (by omega)
      simp
      omega
theorem number_digs (u : Nat) (h : u ≤ 999999999) : number (Go.Lib.decDigits u) = ((u : Int), 0) := by
  have h1 := dec_digs u
  have h2 := digs_len 8 u (by omega)
  unfold number
  rw [if_pos ⟨h1.2.2, h2, h1.1⟩, h1.2.1]
theorem number_itoa (n : Int) (h0 : 0 ≤ n) (h : n ≤ 999999999) : number (Go.Lib.itoa n) = (n, 0) := by
  unfold Go.Lib.itoa
  rw [if_neg (by omega), number_digs _ (by omega)]
  congr 1
  omega
theorem number_neg (n : Int) (h0 : n < 0) : number (Go.Lib.itoa n) = (0, 2) := by
  unfold Go.Lib.itoa number
  rw [if_pos h0, if_neg]
  rintro ⟨_, _, h⟩
  simp [digit] at h
theorem number_minus (l : List UInt8) : number (45 :: l) = (0, 2) := by
  unfold number
  rw [if_neg]
  rintro ⟨_, _, h⟩
  simp [digit] at h
/-- The digits of a number, and what they hold none of. -/
theorem itoa_signs (n : Int) : ∀ c ∈ Go.Lib.itoa n, c = 45 ∨ digit c = true := by
  intro c hc
  unfold Go.Lib.itoa at hc
  split at hc
  · rcases List.mem_cons.1 hc with rfl | hc
    · exact .inl rfl
    · exact .inr (List.all_eq_true.1 (dec_digs _).1 c hc)
  · exact .inr (List.all_eq_true.1 (dec_digs _).1 c hc)
theorem itoa_not (n : Int) (b : UInt8) (h1 : b ≠ 45) (h2 : digit b = false) : b ∉ Go.Lib.itoa n := fun h => by
  rcases itoa_signs n b h with h | h
  · exact h1 h
  · rw [h2] at h; cases h
end Txt
namespace Go.Proofs.YtllhbcpbihhdnaaGreatDoor
open Go.RowKit Go.Shelf Pm
set_option maxRecDepth 100000
namespace Pm
theorem signed_itoa (n : Int) (h0 : -999999999 ≤ n) (h : n ≤ 999999999) : signed (Lib.itoa n) = (n, 0) := by
  unfold signed
  by_cases hn : n < 0
  · have h1 : Lib.itoa n = 45 :: Lib.decDigits n.natAbs := by unfold Lib.itoa; rw [if_pos hn]
    have h2 : Lib.hasPrefix (Lib.itoa n) [45] = true := by rw [h1]; rfl
    have h3 : Lib.trimPrefix (Lib.itoa n) [45] = Lib.decDigits n.natAbs := by unfold Lib.trimPrefix; rw [if_pos h2, h1]; rfl
    rw [if_pos h2, h3, Txt.number_digs _ (by omega)]
    congr 1
    simp only
    omega
  · have h1 : Lib.itoa n = Lib.decDigits n.toNat := by unfold Lib.itoa; rw [if_neg hn]
    have h2 : Lib.hasPrefix (Lib.itoa n) [45] = false := by
      cases hl : Lib.hasPrefix (Lib.itoa n) [45] with
      | false => rfl
      | true =>
        rw [h1] at hl
        have hd := Txt.dec_digs n.toNat
        cases hx : Lib.decDigits n.toNat with
        | nil => exact absurd hx hd.2.2
        | cons c r =>
          rw [hx] at hl hd
          have hc : c = 45 := by have := hl; simp [Lib.hasPrefix] at this; exact this.symm
          subst hc
          simp [Txt.digit] at hd
    have h3 : Lib.trimPrefix (Lib.itoa n) [45] = Lib.itoa n := by unfold Lib.trimPrefix; rw [if_neg (by rw [h2]; simp)]
    rw [if_neg (by rw [h2]; simp), h3, Txt.number_itoa n (by omega) h]
/-- A text of one word. -/
theorem one_word {σ : Type} (ks : List (Key σ)) (k v : List UInt8) (h1 : 61 ∉ k) (h2 : 32 ∉ k ++ 61 :: v) (K : Key σ) (hf : findK ks ⟨(Txt.upper k).toArray⟩ = some K) (st : σ) :
    wordsAll ks ⟨(k ++ 61 :: v).toArray⟩ st = K.step ⟨v.toArray⟩ st := by
  have hl : (⟨(k ++ 61 :: v).toArray⟩ : ByteArray).data.toList = k ++ 61 :: v := rfl
  have hL : cutL ⟨(k ++ 61 :: v).toArray⟩ 61 = ⟨k.toArray⟩ := by unfold cutL; rw [hl, Tok.cut_eq, Tok.cut_at _ h1]
  have hR : cutR ⟨(k ++ 61 :: v).toArray⟩ 61 = ⟨v.toArray⟩ := by unfold cutR; rw [hl, Tok.cut_eq, Tok.cut_at _ h1]
  have hU : upB ⟨k.toArray⟩ = ⟨(Txt.upper k).toArray⟩ := rfl
  unfold wordsAll
  rw [if_neg (by rw [hl]; simp), parts_no (by rw [hl]; exact h2)]
  have hs : wordStep ks ⟨(k ++ 61 :: v).toArray⟩ [] st = (([⟨(Txt.upper k).toArray⟩], (K.step ⟨v.toArray⟩ st).1), (K.step ⟨v.toArray⟩ st).2) := by
    unfold wordStep
    rw [if_neg (by rw [hl]; simp), hL, hR, hU, hf]
    rfl
  unfold wordsRun
  rw [hs]
  simp only
  split
  · rename_i h0
    unfold wordsRun
    rw [← h0]
  · rfl
end Pm
end Go.Proofs.YtllhbcpbihhdnaaGreatDoor
end
section
set_option linter.unusedVariables false
set_option linter.unusedSimpArgs false
namespace Go.Proofs.YtllhbcpbihhdnaaGreatDoor
open Go.RowKit Go.Shelf
set_option maxRecDepth 100000
namespace Pm
def Ml.right (m : Ml) : Int := rightMail m.hS m.hF m.hU m.hB m.hP m.s m.f m.u m.b m.p m.body m.ret m.envid m.mode
/-- What rightMail asks, but that a message isn't held twice. -/
structure MOk (m : Ml) : Prop where
  s : (m.hS = false ∧ m.s = 0) ∨ (m.hS = true ∧ 0 ≤ m.s ∧ m.s ≤ 999999999)
  f : (m.hF = false ∧ m.f = 0) ∨ (m.hF = true ∧ 1 ≤ m.f ∧ m.f ≤ 1048576)
  u : (m.hU = false ∧ m.u = 0) ∨ (m.hU = true ∧ 0 ≤ m.u ∧ m.u ≤ 253402300799)
  b : (m.hB = false ∧ m.b = 0 ∧ m.mode = ⟨#[]⟩) ∨ (m.hB = true ∧ m.mode ∈ modes ∧ least m.mode ≤ m.b ∧ m.b ≤ 999999999)
  p : (m.hP = false ∧ m.p = 0) ∨ (m.hP = true ∧ -9 ≤ m.p ∧ m.p ≤ 9)
  body : m.body = ⟨#[]⟩ ∨ m.body ∈ [n7, n8]
  ret : m.ret = ⟨#[]⟩ ∨ m.ret ∈ [nFull, nHdrs]
  env : m.envid.size ≤ 100
theorem empty_iff (s : ByteArray) : empty s = true ↔ s = ⟨#[]⟩ := by
  unfold empty
  rw [beq_iff_eq, Lib.toList_data]
  constructor
  · intro h
    exact ByteArray.ext (Array.toList_inj.1 h)
  · rintro rfl
    rfl
theorem contains_iff (l : List ByteArray) (s : ByteArray) : Lib.containsS l s = true ↔ s ∈ l := by
  unfold Lib.containsS
  rw [decide_eq_true_eq, Lib.idxOfS_nonneg_iff]
theorem among_iff (s : ByteArray) (l : List ByteArray) : among s l = true ↔ s = ⟨#[]⟩ ∨ s ∈ l := by
  unfold among
  rw [Bool.or_eq_true, empty_iff, contains_iff]
theorem said_iff (h : Bool) (n : Int) : said h n = true ↔ h = true ∨ n = 0 := by unfold said; simp
theorem inn_iff (h : Bool) (n lo hi : Int) : inn h n lo hi = true ↔ h = false ∨ (lo ≤ n ∧ n ≤ hi) := by unfold inn; simp
theorem modes_ne (s : ByteArray) (h : s ∈ modes) : s ≠ ⟨#[]⟩ := by
  rintro rfl
  simp [modes] at h
theorem right_zero (m : Ml) (h : m.right = 0) : MOk m ∧ ¬ (m.hF = true ∧ m.hU = true) := by
  unfold Ml.right rightMail at h
  split at h
  · omega
  · rename_i h1
    split at h
    · omega
    · rename_i h2
      split at h
      · omega
      · rename_i h3
        split at h
        · omega
        · rename_i h4
          split at h
          · omega
          · rename_i h5
            simp only [Bool.not_eq_false, Bool.and_eq_true, said_iff, inn_iff, among_iff, Bool.not_eq_true'] at h1 h2 h3
            obtain ⟨⟨⟨⟨a1, a2⟩, a3⟩, a4⟩, a5⟩ := h1
            obtain ⟨⟨⟨b1, b2⟩, b3⟩, b4⟩ := h2
            obtain ⟨⟨⟨⟨c1, c2⟩, c3⟩, c4⟩, c5⟩ := h3
            have hmode : (m.hB = false ∧ m.mode = ⟨#[]⟩) ∨ (m.hB = true ∧ m.mode ∈ modes) := by
              cases hb : m.hB with
              | false =>
                rw [hb] at b4
                cases he : empty m.mode with
                | false => rw [he] at b4; simp at b4
                | true => exact .inl ⟨rfl, (empty_iff _).1 he⟩
              | true =>
                rw [hb] at b4
                rcases b3 with b3 | b3
                · rw [(empty_iff _).2 b3] at b4; simp at b4
                · exact .inr ⟨rfl, b3⟩
            refine ⟨⟨?_, ?_, ?_, ?_, ?_, b1, b2, by omega⟩, by simpa using h5⟩
            · cases hh : m.hS with
              | false => rw [hh] at a1; exact .inl ⟨rfl, by simpa using a1⟩
              | true => rw [hh] at c1; exact .inr ⟨rfl, by simpa using c1⟩
            · cases hh : m.hF with
              | false => rw [hh] at a2; exact .inl ⟨rfl, by simpa using a2⟩
              | true => rw [hh] at c2; exact .inr ⟨rfl, by simpa using c2⟩
            · cases hh : m.hU with
              | false => rw [hh] at a3; exact .inl ⟨rfl, by simpa using a3⟩
              | true => rw [hh] at c3; exact .inr ⟨rfl, by simpa using c3⟩
            · rcases hmode with ⟨hh, h6⟩ | ⟨hh, h6⟩
              · rw [hh] at a4; exact .inl ⟨hh, by simpa using a4, h6⟩
              · rw [hh] at c4; exact .inr ⟨hh, h6, by simpa using c4⟩
            · cases hh : m.hP with
              | false => rw [hh] at a5; exact .inl ⟨rfl, by simpa using a5⟩
              | true => rw [hh] at c5; exact .inr ⟨rfl, by simpa using c5⟩
theorem right_of (m : Ml) (h : MOk m) (hn : ¬ (m.hF = true ∧ m.hU = true)) : m.right = 0 := by
  have e1 : (said m.hS m.s && said m.hF m.f && said m.hU m.u && said m.hB m.b && said m.hP m.p) = true := by
    simp only [Bool.and_eq_true, said_iff]
    exact ⟨⟨⟨⟨by rcases h.s with k | k <;> simp [k], by rcases h.f with k | k <;> simp [k]⟩, by rcases h.u with k | k <;> simp [k]⟩, by rcases h.b with k | k <;> simp [k]⟩, by rcases h.p with k | k <;> simp [k]⟩
  have e2 : (among m.body [⟨#[55, 66, 73, 84]⟩, ⟨#[56, 66, 73, 84, 77, 73, 77, 69]⟩] && among m.ret [⟨#[70, 85, 76, 76]⟩, ⟨#[72, 68, 82, 83]⟩] && among m.mode [⟨#[82]⟩, ⟨#[78]⟩, ⟨#[82, 84]⟩, ⟨#[78, 84]⟩] && !(empty m.mode == m.hB)) = true := by
    simp only [Bool.and_eq_true, among_iff, Bool.not_eq_true']
    refine ⟨⟨⟨h.body, h.ret⟩, ?_⟩, ?_⟩
    · rcases h.b with k | k
      · exact .inl k.2.2
      · exact .inr k.2.1
    · rcases h.b with k | k
      · rw [k.1, (empty_iff _).2 k.2.2]; rfl
      · rw [k.1]
        have : empty m.mode = false := by
          cases he : empty m.mode with
          | false => rfl
          | true => exact absurd ((empty_iff _).1 he) (modes_ne _ k.2.1)
        rw [this]; rfl
  have e3 : (inn m.hS m.s 0 999999999 && inn m.hF m.f 1 1048576 && inn m.hU m.u 0 253402300799 && inn m.hB m.b (least m.mode) 999999999 && inn m.hP m.p (-9) 9) = true := by
    simp only [Bool.and_eq_true, inn_iff]
    exact ⟨⟨⟨⟨by rcases h.s with k | k <;> simp [k], by rcases h.f with k | k <;> simp [k]⟩, by rcases h.u with k | k <;> simp [k]⟩, by rcases h.b with k | k <;> simp [k]⟩, by rcases h.p with k | k <;> simp [k]⟩
  have e4 := h.env
  unfold Ml.right rightMail
  rw [if_neg (by rw [e1]; simp), if_neg (by rw [e2]; simp), if_neg (by rw [e3]; simp), if_neg (by omega), if_neg (by simpa using hn)]
end Pm
end Go.Proofs.YtllhbcpbihhdnaaGreatDoor
end
section
set_option linter.unusedVariables false
set_option linter.unusedSimpArgs false
namespace Tx
theorem hex_unhex : ∀ n : Fin 16, unhex (hex n.val) = (n.val : Int) := by decide
theorem plain_hex : ∀ n : Fin 16, hex n.val ≠ 32 := by decide
/-- What was encoded is decoded. -/
theorem dec_enc (l : List UInt8) : dec (enc l) = some l := by
  induction l with
  | nil => rfl
  | cons c l ih =>
    have hc := c.toNat_lt
    show dec (enc1 c ++ enc l) = _
    unfold enc1
    by_cases h : Txt.plain c = true
    · rw [if_pos h, List.singleton_append, dec_cons, if_pos h, ih]
      rfl
    · rw [if_neg h]
      have h1 := hex_unhex ⟨c.toNat / 16, by omega⟩
      have h2 := hex_unhex ⟨c.toNat % 16, by omega⟩
      simp only at h1 h2
      simp only [List.cons_append, List.nil_append]
      rw [dec_cons, if_neg (by decide), if_pos rfl]
      simp only [h1, h2]
      rw [if_pos ⟨by omega, by omega⟩, ih]
      simp only [Option.map_some, Int.toNat_natCast]
      rw [show 16 * (c.toNat / 16) + c.toNat % 16 = c.toNat by omega]
      simp
theorem enc_no32 (l : List UInt8) : 32 ∉ enc l := by
  induction l with
  | nil => simp [enc]
  | cons c l ih =>
    have hc := c.toNat_lt
    show 32 ∉ enc1 c ++ enc l
    rw [List.mem_append, not_or]
    refine ⟨?_, ih⟩
    unfold enc1
    split
    · rename_i h
      simp only [List.mem_singleton]
      rintro rfl
      simp [Txt.plain] at h
    · have h1 := plain_hex ⟨c.toNat / 16, by omega⟩
      have h2 := plain_hex ⟨c.toNat % 16, by omega⟩
      simp only [List.mem_cons, List.not_mem_nil, or_false, not_or]
      exact ⟨by decide, fun e => h1 e.symm, fun e => h2 e.symm⟩
theorem enc_ne {l : List UInt8} (h : l ≠ []) : enc l ≠ [] := by
  intro e
  have := dec_enc l
  rw [e] at this
  simp [dec] at this
  exact h this
end Tx
namespace Go.Proofs.YtllhbcpbihhdnaaGreatDoor
open Go.RowKit Go.Shelf
set_option maxRecDepth 100000
theorem inter_cons (sep x : List UInt8) (y : List UInt8) (r : List (List UInt8)) : List.intercalate sep (x :: y :: r) = x ++ sep ++ List.intercalate sep (y :: r) := by
  simp [List.intercalate, List.intersperse]
theorem split_join (b : UInt8) : ∀ (ls : List (List UInt8)), ls ≠ [] → (∀ l ∈ ls, b ∉ l) → Tok.split b (List.intercalate [b] ls) = ls
  | [], h, _ => absurd rfl h
  | [x], _, h => by
    have : List.intercalate [b] [x] = x := by simp [List.intercalate]
    rw [this, Tok.split_no (h x (by simp))]
  | x :: y :: r, _, h => by
    rw [inter_cons, List.append_assoc, List.singleton_append, Tok.split_at _ (h x (by simp)), split_join b (y :: r) (by simp) (fun l hl => h l (List.mem_cons_of_mem _ hl))]
theorem parts_join (b : UInt8) (ws : List ByteArray) (h0 : ws ≠ []) (h : ∀ w ∈ ws, b ∉ w.data.toList) : parts b (joinB ws ⟨#[b]⟩) = ws := by
  unfold parts joinB Lib.join
  show (Tok.split b (List.intercalate [b] (ws.map (·.data.toList)))).map _ = ws
  rw [split_join b _ (by simpa using h0) (by intro l hl; obtain ⟨w, hw, rfl⟩ := List.mem_map.1 hl; exact h w hw), List.map_map]
  have : ∀ l : List ByteArray, l.map ((fun l : List UInt8 => (⟨l.toArray⟩ : ByteArray)) ∘ fun x => x.data.toList) = l := fun l => by induction l <;> simp_all
  exact this ws
theorem joinB_ne (ws : List ByteArray) (sep : ByteArray) (h0 : ws ≠ []) (h : ∀ w ∈ ws, w.data.toList ≠ []) : (joinB ws sep).data.toList ≠ [] := by
  cases ws with
  | nil => exact absurd rfl h0
  | cons x r =>
    have hx := h x (by simp)
    show List.intercalate sep.data.toList ((x :: r).map (·.data.toList)) ≠ []
    cases r with
    | nil => simpa [List.intercalate] using hx
    | cons y r => rw [List.map_cons, List.map_cons, inter_cons]; simp [hx]
namespace Pm
theorem word_cuts (key val : ByteArray) (hk : 61 ∉ key.data.toList) : cutL (word key val) 61 = key ∧ cutR (word key val) 61 = val ∧ (word key val).data.toList ≠ [] ∧ (word key val).data.toList = key.data.toList ++ 61 :: val.data.toList := by
  have hl : (word key val).data.toList = key.data.toList ++ 61 :: val.data.toList := by simp [word]
  refine ⟨?_, ?_, by rw [hl]; simp, hl⟩
  · unfold cutL; rw [hl, Tok.cut_eq, Tok.cut_at _ hk]
  · unfold cutR; rw [hl, Tok.cut_eq, Tok.cut_at _ hk]
/-- One word more. -/
theorem more_runs {σ : Type} {ks : List (Key σ)} {st0 x x' : σ} {ws seen old : List ByteArray} (h : ∀ rest, wordsRun ks (ws ++ rest) [] st0 = wordsRun ks rest seen x) (hs : ∀ y ∈ seen, y ∈ old) (has : Bool) (key val : ByteArray) (hk : 61 ∉ key.data.toList) (hu : upB key = key) (hold : key ∉ old)
    (K : Key σ) (hf : findK ks key = some K) (h1 : has = true → K.step val x = (x', 0)) (h0 : has = false → x' = x) :
    ∃ seen', (∀ rest, wordsRun ks (more has key val ws ++ rest) [] st0 = wordsRun ks rest seen' x') ∧ ∀ y ∈ seen', y ∈ key :: old := by
  cases has with
  | false =>
    refine ⟨seen, ?_, fun y hy => List.mem_cons_of_mem _ (hs y hy)⟩
    rw [h0 rfl]
    exact h
  | true =>
    have hc := word_cuts key val hk
    have hw : wordStep ks (word key val) seen x = ((seen ++ [key], x'), 0) := by
      unfold wordStep
      rw [if_neg hc.2.2.1, hc.1, hu, hf, hc.2.1]
      simp only
      rw [if_neg, h1 rfl]
      intro q
      obtain ⟨y, hy, he⟩ := List.any_eq_true.1 q
      simp at he
      subst he
      exact hold (hs _ hy)
    refine ⟨seen ++ [key], (run_more h (word key val) hw).1 rfl, fun y hy => ?_⟩
    rcases List.mem_append.1 hy with hy | hy
    · exact List.mem_cons_of_mem _ (hs y hy)
    · simp at hy; subst hy; exact List.mem_cons_self ..
theorem more_mem {has : Bool} {key val : ByteArray} {ws : List ByteArray} {P : ByteArray → Prop} (h : ∀ w ∈ ws, P w) (hn : has = true → P (word key val)) : ∀ w ∈ more has key val ws, P w := by
  unfold more
  split
  · intro w hw
    rcases List.mem_append.1 hw with hw | hw
    · exact h w hw
    · simp at hw; subst hw; exact hn (by assumption)
  · exact h
/-- The words of a message, out of what it says. -/
noncomputable def Ml.words (m : Ml) : List ByteArray := words8 m.hS m.hF m.hU m.hB m.hP m.body m.ret m.envid m.mode (itoaB m.s) (encB m.envid) (itoaB m.f) (dateB m.u) (itoaB m.b) (itoaB m.p)
noncomputable def Ml.text (m : Ml) : ByteArray := mailText m.hS m.hF m.hU m.hB m.hP m.s m.f m.u m.b m.p m.body m.ret m.envid m.mode
theorem text_words (m : Ml) : m.text = joinB m.words ⟨#[32]⟩ := rfl
theorem empty_ne {s : ByteArray} (h : (!s.toList.isEmpty) = true) : s ≠ ⟨#[]⟩ := by
  rintro rfl
  rw [Lib.toList_data] at h
  simp at h
theorem empty_eq {s : ByteArray} (h : (!s.toList.isEmpty) = false) : s = ⟨#[]⟩ := by
  rw [Lib.toList_data] at h
  simp at h
  exact ByteArray.ext (by simpa using h)
theorem up_dg (n : Int) : Txt.up (DtCal.dg n) = DtCal.dg n ∧ DtCal.dg n ≠ 32 := by
  have h := DtCal.dg_val n
  constructor
  · exact Txt.up_not (by omega)
  · intro e
    rw [e] at h
    have : ((32 : UInt8).toNat : Int) = 32 := rfl
    omega
theorem upper_text (t : Int) : Txt.upper (DtCal.text t) = DtCal.text t := by
  unfold DtCal.text DtCal.textOf Txt.upper
  simp only [List.map_cons, List.map_nil, (up_dg _).1]
  rfl
theorem text_no32 (t : Int) : 32 ∉ DtCal.text t := by
  unfold DtCal.text DtCal.textOf
  intro h
  simp only [List.mem_cons, List.not_mem_nil, or_false] at h
  have hd := fun n => (up_dg n).2.symm
  simp only [hd, false_or] at h
  revert h
  decide
theorem up_text (u : Int) (h0 : 0 ≤ u) (h1 : u ≤ 253402300799) : DtCal.parse (Txt.upper (dateB u).data.toList) = (u, 0) := by
  have : (dateB u).data.toList = DtCal.text u := by unfold dateB; rw [if_pos ⟨h0, by omega⟩]
  rw [this, upper_text, DtCal.parse_text u h0 (by omega)]
theorem words_run (m : Ml) (h : MOk m) : ∃ seen, ∀ rest, wordsRun mailPlain (m.words ++ rest) [] Ml.zero = wordsRun mailPlain rest seen m := by
  obtain ⟨hS, hF, hU, hB, hP, s, f, u, b, p, body, ret, envid, mode⟩ := m
  obtain ⟨e1, e2, e3, e4, e5, e6, e7, e8⟩ := h
  simp only at e1 e2 e3 e4 e5 e6 e7 e8
  have r0 : ∀ rest, wordsRun mailPlain ([] ++ rest) [] Ml.zero = wordsRun mailPlain rest [] Ml.zero := fun rest => rfl
  obtain ⟨s1, r1, m1⟩ := more_runs (old := []) (x' := { Ml.zero with hS := hS, s := s }) r0 (fun y hy => hy) hS ⟨#[83, 73, 90, 69]⟩ (itoaB s) (by decide) (by rfl) (by simp) ⟨⟨#[83, 73, 90, 69]⟩, 0, #[], stSize⟩ (by rfl)
    (by rintro rfl
        rcases e1 with k | ⟨_, k1, k2⟩
        · cases k.1
        · show ({ Ml.zero with hS := true, s := (Txt.number (Lib.itoa s)).1 }, (Txt.number (Lib.itoa s)).2) = _
          rw [Txt.number_itoa s k1 k2])
    (by rintro rfl
        rcases e1 with k | k
        · rw [k.2]; rfl
        · cases k.1)
  clear r0
  obtain ⟨s2, r2, m2⟩ := more_runs (x' := { Ml.zero with hS := hS, s := s, body := body }) r1 m1 (!body.toList.isEmpty) ⟨#[66, 79, 68, 89]⟩ body (by decide) (by rfl) (by simp) ⟨⟨#[66, 79, 68, 89]⟩, 0, #[], stBody⟩ (by rfl)
    (by intro q
        rcases e6 with k | k
        · exact absurd k (empty_ne q)
        · simp only [List.mem_cons, List.not_mem_nil, or_false] at k
          rcases k with rfl | rfl <;> rfl)
    (by intro q; rw [empty_eq q]; rfl)
  clear r1 m1
  obtain ⟨s3, r3, m3⟩ := more_runs (x' := { Ml.zero with hS := hS, s := s, body := body, ret := ret }) r2 m2 (!ret.toList.isEmpty) ⟨#[82, 69, 84]⟩ ret (by decide) (by rfl) (by simp) ⟨⟨#[82, 69, 84]⟩, 0, #[], stRet⟩ (by rfl)
    (by intro q
        rcases e7 with k | k
        · exact absurd k (empty_ne q)
        · simp only [List.mem_cons, List.not_mem_nil, or_false] at k
          rcases k with rfl | rfl <;> rfl)
    (by intro q; rw [empty_eq q]; rfl)
  clear r2 m2
  obtain ⟨s4, r4, m4⟩ := more_runs (x' := { Ml.zero with hS := hS, s := s, body := body, ret := ret, envid := envid }) r3 m3 (!envid.toList.isEmpty) ⟨#[69, 78, 86, 73, 68]⟩ (encB envid) (by decide) (by rfl) (by simp) ⟨⟨#[69, 78, 86, 73, 68]⟩, 0, #[], stEnvid⟩ (by rfl)
    (by intro q
        have hne := empty_ne q
        have hd : decoded (encB envid).data.toList 100 = (envid.data.toList, 0) := by
          unfold decoded
          rw [show (encB envid).data.toList = Tx.enc envid.data.toList from rfl, Tx.dec_enc]
          cases hl : envid.data.toList with
          | nil => exact absurd (ByteArray.ext (Array.toList_inj.1 hl)) hne
          | cons c r =>
            have hz : envid.data.toList.length = envid.size := by simp
            rw [hl] at hz
            simp only
            rw [if_neg (by omega)]
        show ({ ({ Ml.zero with hS := hS, s := s, body := body, ret := ret } : Ml) with envid := ⟨(decoded (encB envid).data.toList 100).1.toArray⟩ }, (decoded (encB envid).data.toList 100).2) = _
        rw [hd])
    (by intro q; rw [empty_eq q]; rfl)
  clear r3 m3
  obtain ⟨s5, r5, m5⟩ := more_runs (x' := { Ml.zero with hS := hS, s := s, body := body, ret := ret, envid := envid, hF := hF, f := f }) r4 m4 hF ⟨#[72, 79, 76, 68, 70, 79, 82]⟩ (itoaB f) (by decide) (by rfl) (by simp) ⟨⟨#[72, 79, 76, 68, 70, 79, 82]⟩, 0, #[], stFor⟩ (by rfl)
    (by rintro rfl
        rcases e2 with k | ⟨_, k1, k2⟩
        · cases k.1
        · have hd : forN (itoaB f) = (f, 0) := by
            show within (Txt.number (Lib.itoa f)).1 (Txt.number (Lib.itoa f)).2 1 1048576 = _
            rw [Txt.number_itoa f (by omega) (by omega)]
            unfold within
            rw [if_neg (by simp), if_neg (by omega)]
          show ({ ({ Ml.zero with hS := hS, s := s, body := body, ret := ret, envid := envid } : Ml) with hF := true, f := (forN (itoaB f)).1 }, (forN (itoaB f)).2) = _
          rw [hd])
    (by rintro rfl
        rcases e2 with k | k
        · rw [k.2]; rfl
        · cases k.1)
  clear r4 m4
  obtain ⟨s6, r6, m6⟩ := more_runs (x' := { Ml.zero with hS := hS, s := s, body := body, ret := ret, envid := envid, hF := hF, f := f, hU := hU, u := u }) r5 m5 hU ⟨#[72, 79, 76, 68, 85, 78, 84, 73, 76]⟩ (dateB u) (by decide) (by rfl) (by simp) ⟨⟨#[72, 79, 76, 68, 85, 78, 84, 73, 76]⟩, 0, #[], stUntil⟩ (by rfl)
    (by rintro rfl
        rcases e3 with k | ⟨_, k1, k2⟩
        · cases k.1
        · show ({ ({ Ml.zero with hS := hS, s := s, body := body, ret := ret, envid := envid, hF := hF, f := f } : Ml) with hU := true, u := (DtCal.parse (Txt.upper (dateB u).data.toList)).1 }, (DtCal.parse (Txt.upper (dateB u).data.toList)).2) = _
          rw [up_text u k1 k2])
    (by rintro rfl
        rcases e3 with k | k
        · rw [k.2]; rfl
        · cases k.1)
  clear r5 m5
  obtain ⟨s7, r7, m7⟩ := more_runs (x' := { Ml.zero with hS := hS, s := s, body := body, ret := ret, envid := envid, hF := hF, f := f, hU := hU, u := u, hB := hB, b := b, mode := mode }) r6 m6 hB ⟨#[66, 89]⟩ (itoaB b ++ ⟨#[59]⟩ ++ mode) (by decide) (by rfl) (by simp) ⟨⟨#[66, 89]⟩, 0, #[], stBy⟩ (by rfl)
    (by rintro rfl
        rcases e4 with k | ⟨_, k0, k1, k2⟩
        · cases k.1
        · have hlo : -999999999 ≤ least mode := by unfold least; split <;> omega
          have hcut : Lib.cut (itoaB b ++ ⟨#[59]⟩ ++ mode).data.toList [59] = (Lib.itoa b, mode.data.toList, true) := by
            have : (itoaB b ++ ⟨#[59]⟩ ++ mode).data.toList = Lib.itoa b ++ 59 :: mode.data.toList := by simp [itoaB]
            rw [this, Tok.cut_eq]
            exact Tok.cut_at _ (Txt.itoa_not b 59 (by decide) (by decide))
          have hm : byMode (itoaB b ++ ⟨#[59]⟩ ++ mode) = (mode, 0) := by
            unfold byMode
            rw [hcut]
            simp only [modes, List.mem_cons, List.not_mem_nil, or_false] at k0
            rcases k0 with rfl | rfl | rfl | rfl <;> rfl
          have hn : byN (itoaB b ++ ⟨#[59]⟩ ++ mode) = (b, 0) := by
            unfold byN
            rw [hm, hcut]
            simp only
            rw [signed_itoa b (by omega) k2]
            show within b 0 (least mode) 999999999 = _
            unfold within
            rw [if_neg (by simp), if_neg (by omega)]
          show stBy _ _ = _
          unfold stBy
          rw [hm, hn]
          rfl)
    (by rintro rfl
        rcases e4 with k | k
        · rw [k.2.1, k.2.2]; rfl
        · cases k.1)
  clear r6 m6
  obtain ⟨s8, r8, m8⟩ := more_runs (x' := ⟨hS, hF, hU, hB, hP, s, f, u, b, p, body, ret, envid, mode⟩) r7 m7 hP ⟨#[77, 84, 45, 80, 82, 73, 79, 82, 73, 84, 89]⟩ (itoaB p) (by decide) (by rfl) (by simp) ⟨⟨#[77, 84, 45, 80, 82, 73, 79, 82, 73, 84, 89]⟩, 0, #[], stPri⟩ (by rfl)
    (by rintro rfl
        rcases e5 with k | ⟨_, k1, k2⟩
        · cases k.1
        · have hd : priN (itoaB p) = (p, 0) := by
            show within (signed (Lib.itoa p)).1 (signed (Lib.itoa p)).2 (-9) 9 = _
            rw [signed_itoa p (by omega) (by omega)]
            unfold within
            rw [if_neg (by simp), if_neg (by omega)]
          show ({ ({ Ml.zero with hS := hS, s := s, body := body, ret := ret, envid := envid, hF := hF, f := f, hU := hU, u := u, hB := hB, b := b, mode := mode } : Ml) with hP := true, p := (priN (itoaB p)).1 }, (priN (itoaB p)).2) = _
          rw [hd])
    (by rintro rfl
        rcases e5 with k | k
        · rw [k.2]; rfl
        · cases k.1)
  exact ⟨s8, r8⟩
theorem no32_word {key val : ByteArray} (hk : 61 ∉ key.data.toList) (h1 : 32 ∉ key.data.toList) (h2 : 32 ∉ val.data.toList) : 32 ∉ (word key val).data.toList := by
  rw [(word_cuts key val hk).2.2.2, List.mem_append, List.mem_cons, not_or, not_or]
  exact ⟨h1, by decide, h2⟩
theorem words_no32 (m : Ml) (h : MOk m) : ∀ w ∈ m.words, 32 ∉ w.data.toList := by
  have hi : ∀ n, 32 ∉ (itoaB n).data.toList := fun n => Txt.itoa_not n 32 (by decide) (by decide)
  have hb : 32 ∉ m.body.data.toList := by
    rcases h.body with k | k
    · rw [k]; simp
    · simp only [List.mem_cons, List.not_mem_nil, or_false] at k
      rcases k with k | k <;> rw [k] <;> decide
  have hr : 32 ∉ m.ret.data.toList := by
    rcases h.ret with k | k
    · rw [k]; simp
    · simp only [List.mem_cons, List.not_mem_nil, or_false] at k
      rcases k with k | k <;> rw [k] <;> decide
  have hm : 32 ∉ m.mode.data.toList := by
    rcases h.b with k | k
    · rw [k.2.2]; simp
    · have k0 := k.2.1
      simp only [modes, List.mem_cons, List.not_mem_nil, or_false] at k0
      rcases k0 with k | k | k | k <;> rw [k] <;> decide
  have hu : 32 ∉ (dateB m.u).data.toList := by
    unfold dateB
    show 32 ∉ (if 0 ≤ m.u ∧ m.u < 253402300800 then DtCal.text m.u else [])
    split
    · exact text_no32 _
    · simp
  unfold Ml.words words8
  refine more_mem (more_mem (more_mem (more_mem (more_mem (more_mem (more_mem (more_mem (by simp) ?_) ?_) ?_) ?_) ?_) ?_) ?_) ?_
  · exact fun _ => no32_word (by decide) (by decide) (hi _)
  · exact fun _ => no32_word (by decide) (by decide) hb
  · exact fun _ => no32_word (by decide) (by decide) hr
  · exact fun _ => no32_word (by decide) (by decide) (Tx.enc_no32 _)
  · exact fun _ => no32_word (by decide) (by decide) (hi _)
  · exact fun _ => no32_word (by decide) (by decide) hu
  · refine fun _ => no32_word (by decide) (by decide) ?_
    simp only [ByteArray.data_append, Array.toList_append, List.mem_append, not_or]
    exact ⟨⟨hi _, by decide⟩, hm⟩
  · exact fun _ => no32_word (by decide) (by decide) (hi _)
theorem words_full (m : Ml) : ∀ w ∈ m.words, w.data.toList ≠ [] := by
  have hw : ∀ key val : ByteArray, (word key val).data.toList ≠ [] := fun key val => by simp [word]
  unfold Ml.words words8
  exact more_mem (more_mem (more_mem (more_mem (more_mem (more_mem (more_mem (more_mem (by simp) (fun _ => hw _ _)) (fun _ => hw _ _)) (fun _ => hw _ _)) (fun _ => hw _ _)) (fun _ => hw _ _)) (fun _ => hw _ _)) (fun _ => hw _ _)) (fun _ => hw _ _)
/-- What was printed is parsed. -/
theorem parse_printed (m : Ml) (h : m.right = 0) : parseMail m.text = (m, 0) := by
  obtain ⟨hok, hn⟩ := right_zero m h
  obtain ⟨seen, hrun⟩ := words_run m hok
  have h0 : wordsRun mailPlain m.words [] Ml.zero = (m, 0) := by
    have := hrun []
    rw [List.append_nil] at this
    rw [this]
    rfl
  have hall : wordsAll mailPlain m.text Ml.zero = (m, 0) := by
    rw [text_words]
    unfold wordsAll
    by_cases hw : m.words = []
    · rw [hw] at h0 ⊢
      rw [if_pos (by rfl)]
      exact h0
    · rw [if_neg (joinB_ne _ _ hw (words_full m)), parts_join 32 m.words hw (words_no32 m hok)]
      exact h0
  unfold parseMail
  rw [hall]
  simp only
  rw [if_neg (by simp), if_neg hn]
end Pm
end Go.Proofs.YtllhbcpbihhdnaaGreatDoor
end
section
set_option linter.unusedVariables false
set_option linter.unusedSimpArgs false
namespace Go.Proofs.YtllhbcpbihhdnaaGreatDoor
open Go.RowKit Go.Shelf
set_option maxRecDepth 100000
namespace Pm
/-- A word that went well. -/
theorem step_zero {σ : Type} {ks : List (Key σ)} {x : ByteArray} {seen : List ByteArray} {s : σ} (h : (wordStep ks x seen s).2 = 0) :
    ∃ K, K ∈ ks ∧ findK ks (upB (cutL x 61)) = some K ∧ x.data.toList ≠ [] ∧ seen.any (fun y => decide (y = upB (cutL x 61))) = false ∧ (K.step (cutR x 61) s).2 = 0 ∧ wordStep ks x seen s = ((seen ++ [upB (cutL x 61)], (K.step (cutR x 61) s).1), 0) := by
  unfold wordStep at h
  by_cases hx : x.data.toList = []
  · rw [if_pos hx] at h; simp at h
  · rw [if_neg hx] at h
    cases hf : findK ks (upB (cutL x 61)) with
    | none => rw [hf] at h; simp at h
    | some K =>
      rw [hf] at h
      simp only at h
      cases hs : seen.any (fun y => decide (y = upB (cutL x 61))) with
      | true => rw [hs, if_pos rfl] at h; simp at h
      | false =>
        rw [hs, if_neg (by simp)] at h
        refine ⟨K, List.mem_of_find?_eq_some hf, rfl, hx, rfl, h, ?_⟩
        unfold wordStep
        rw [if_neg hx, hf]
        simp only
        rw [hs, if_neg (by simp), ← h]
theorem run_inv {σ : Type} {P : σ → Prop} {ks : List (Key σ)} (hK : ∀ K ∈ ks, ∀ v s, P s → (K.step v s).2 = 0 → P (K.step v s).1) : ∀ (ws seen : List ByteArray) (s : σ), P s → (wordsRun ks ws seen s).2 = 0 → P (wordsRun ks ws seen s).1
  | [], _, s, h, _ => h
  | x :: xs, seen, s, h, h0 => by
    unfold wordsRun at h0 ⊢
    by_cases hs : (wordStep ks x seen s).2 = 0
    · rw [if_pos hs] at h0 ⊢
      refine run_inv hK xs _ _ ?_ h0
      obtain ⟨K, h1, h2, h3, h4, h5, h6⟩ := step_zero hs
      rw [h6]
      exact hK K h1 _ _ h h5
    · rw [if_neg hs] at h0
      exact absurd h0 hs
theorem all_inv {σ : Type} {P : σ → Prop} {ks : List (Key σ)} (hK : ∀ K ∈ ks, ∀ v s, P s → (K.step v s).2 = 0 → P (K.step v s).1) (t : ByteArray) (s : σ) (h : P s) (h0 : (wordsAll ks t s).2 = 0) : P (wordsAll ks t s).1 := by
  unfold wordsAll at h0 ⊢
  split
  · exact h
  · rename_i ht
    rw [if_neg ht] at h0
    exact run_inv hK _ _ _ h h0
theorem within_zero {n e lo hi : Int} (h : (within n e lo hi).2 = 0) : e = 0 ∧ lo ≤ n ∧ n ≤ hi ∧ (within n e lo hi).1 = n := by
  unfold within at h ⊢
  split at h
  · rename_i he; exact absurd h he
  · rename_i he
    split at h
    · simp at h
    · rename_i hr
      rw [if_neg he, if_neg hr]
      exact ⟨by omega, by omega, by omega, rfl⟩
theorem name_zero {s : ByteArray} {l : List ByteArray} (h : (name s l).2 = 0) : (name s l).1 ∈ l := by
  unfold name at h ⊢
  split at h
  · rename_i hc; rw [if_pos hc]; exact (contains_iff _ _).1 hc
  · simp at h
theorem decoded_zero {l : List UInt8} {n : Int} (h : (decoded l n).2 = 0) : ((decoded l n).1.length : Int) ≤ n ∧ (decoded l n).1 ≠ [] := by
  unfold decoded at h ⊢
  split
  · rename_i hd; rw [hd] at h; simp at h
  · rename_i hd; rw [hd] at h; simp at h
  · rename_i c r hd
    rw [hd] at h
    simp only at h
    split at h
    · simp at h
    · rename_i hr
      rw [if_neg hr]
      exact ⟨by show ((c :: r).length : Int) ≤ n; omega, by simp⟩
theorem least_eq (m : ByteArray) : byLeast m = least m := rfl
theorem zero_ok : MOk Ml.zero := ⟨.inl ⟨rfl, rfl⟩, .inl ⟨rfl, rfl⟩, .inl ⟨rfl, rfl⟩, .inl ⟨rfl, rfl, rfl⟩, .inl ⟨rfl, rfl⟩, .inl rfl, .inl rfl, by decide⟩
theorem steps_ok : ∀ K ∈ mailPlain, ∀ v s, MOk s → (K.step v s).2 = 0 → MOk (K.step v s).1 := by
  intro K hK v m h h0
  simp only [mailPlain, List.mem_cons, List.not_mem_nil, or_false] at hK
  rcases hK with rfl | rfl | rfl | rfl | rfl | rfl | rfl | rfl
  · have hr := num_range v.data.toList
    exact ⟨.inr ⟨rfl, hr.1, hr.2⟩, h.f, h.u, h.b, h.p, h.body, h.ret, h.env⟩
  · have hn := name_zero (show (name v [n7, n8]).2 = 0 from h0)
    exact ⟨h.s, h.f, h.u, h.b, h.p, .inr hn, h.ret, h.env⟩
  · have hn := name_zero (show (name v [nFull, nHdrs]).2 = 0 from h0)
    exact ⟨h.s, h.f, h.u, h.b, h.p, h.body, .inr hn, h.env⟩
  · have hn := decoded_zero (show (decoded v.data.toList 100).2 = 0 from h0)
    refine ⟨h.s, h.f, h.u, h.b, h.p, h.body, h.ret, ?_⟩
    show (decoded v.data.toList 100).1.toArray.size ≤ 100
    rw [List.size_toArray]
    omega
  · have hw := within_zero (show (within (Txt.number v.data.toList).1 (Txt.number v.data.toList).2 1 1048576).2 = 0 from h0)
    refine ⟨h.s, .inr ⟨rfl, ?_⟩, h.u, h.b, h.p, h.body, h.ret, h.env⟩
    show 1 ≤ (forN v).1 ∧ (forN v).1 ≤ 1048576
    unfold forN
    rw [hw.2.2.2]
    exact ⟨hw.2.1, hw.2.2.1⟩
  · have h1 : (stUntil v m).2 = 0 := h0
    show MOk (stUntil v m).1
    unfold stUntil at h1 ⊢
    have hp := DtCal.parse_range (s := Txt.upper v.data.toList)
    generalize DtCal.parse (Txt.upper v.data.toList) = q at h1 hp
    simp only at h1
    have hp := hp h1
    exact ⟨h.s, h.f, .inr ⟨rfl, hp.1, by simp only; omega⟩, h.b, h.p, h.body, h.ret, h.env⟩
  · show MOk (stBy v m).1
    have h1 : (stBy v m).2 = 0 := h0
    unfold stBy at h1 ⊢
    split at h1
    · rename_i hm; exact absurd h1 hm
    · rename_i hm
      rw [if_neg hm]
      have hm0 : (byMode v).2 = 0 := by simpa using hm
      have hn := name_zero (show (name ⟨(Lib.cut v.data.toList [59]).2.1.toArray⟩ modes).2 = 0 from hm0)
      have hw := within_zero (show (within (signed (Lib.cut v.data.toList [59]).1).1 (signed (Lib.cut v.data.toList [59]).1).2 (byLeast (byMode v).1) 999999999).2 = 0 from h1)
      refine ⟨h.s, h.f, h.u, .inr ⟨rfl, hn, ?_⟩, h.p, h.body, h.ret, h.env⟩
      show least (byMode v).1 ≤ (byN v).1 ∧ (byN v).1 ≤ 999999999
      unfold byN
      rw [hw.2.2.2]
      exact ⟨hw.2.1, hw.2.2.1⟩
  · have hw := within_zero (show (within (signed v.data.toList).1 (signed v.data.toList).2 (-9) 9).2 = 0 from h0)
    refine ⟨h.s, h.f, h.u, h.b, .inr ⟨rfl, ?_⟩, h.body, h.ret, h.env⟩
    show -9 ≤ (priN v).1 ∧ (priN v).1 ≤ 9
    unfold priN
    rw [hw.2.2.2]
    exact ⟨hw.2.1, hw.2.2.1⟩
theorem all_ok (t : ByteArray) (h0 : (wordsAll mailPlain t Ml.zero).2 = 0) : MOk (wordsAll mailPlain t Ml.zero).1 := all_inv steps_ok t Ml.zero zero_ok h0
/-- What is parsed of any text may be printed. -/
theorem parse_right (t : ByteArray) (h : (parseMail t).2 = 0) : (parseMail t).1.right = 0 := by
  unfold parseMail at h ⊢
  split at h
  · rename_i hn; exact absurd h hn
  · rename_i hn
    split at h
    · simp at h
    · rename_i hb
      rw [if_neg hn, if_neg hb]
      exact right_of _ (all_ok t (by simpa using hn)) hb
end Pm
end Go.Proofs.YtllhbcpbihhdnaaGreatDoor
end
section
set_option linter.unusedVariables false
set_option linter.unusedSimpArgs false
namespace Txt
theorem up_up (c : UInt8) : up (up c) = up c := by
  by_cases h : 97 ≤ c.toNat ∧ c.toNat ≤ 122
  · have := up_low h
    exact up_not (by omega)
  · rw [up_not h, up_not h]
theorem upper_upper (l : List UInt8) : upper (upper l) = upper l := by
  unfold upper
  rw [List.map_map]
  congr 1
  funext c
  exact up_up c
theorem letter_up (c : UInt8) : letter (up c) = letter c := by
  unfold letter
  by_cases h : 97 ≤ c.toNat ∧ c.toNat ≤ 122
  · have := up_low h
    rw [this]
    rw [Bool.eq_iff_iff]
    simp only [decide_eq_true_eq]
    omega
  · rw [up_not h]
theorem all_letter_upper (l : List UInt8) : (upper l).all letter = l.all letter := by
  unfold upper
  rw [List.all_map]
  congr 1
  funext c
  exact letter_up c
end Txt
namespace Go.Proofs.YtllhbcpbihhdnaaGreatDoor
open Go.RowKit Go.Shelf
set_option maxRecDepth 100000
namespace Pm
def nts : List ByteArray := [⟨#[]⟩, ⟨#[78]⟩, ⟨#[83]⟩, ⟨#[70]⟩, ⟨#[68]⟩, ⟨#[83, 70]⟩, ⟨#[83, 68]⟩, ⟨#[70, 68]⟩, ⟨#[83, 70, 68]⟩]
/-- What rightRcpt asks. -/
structure ROk (r : Rc) : Prop where
  nt : r.nt ∈ nts
  ko : (r.kd = ⟨#[]⟩ ∧ r.oc = ⟨#[]⟩) ∨ (r.kd ≠ ⟨#[]⟩ ∧ r.oc ≠ ⟨#[]⟩ ∧ typed r.kd.data.toList = true ∧ upB r.kd = r.kd ∧ r.oc.size ≤ 256)
def Rc.right (r : Rc) : Int := rightRcpt r.nt r.kd r.oc
theorem empty_false (s : ByteArray) : empty s = false ↔ s ≠ ⟨#[]⟩ := by
  rw [← Bool.not_eq_true, empty_iff]
theorem rright_zero (r : Rc) (h : r.right = 0) : ROk r := by
  unfold Rc.right rightRcpt at h
  split at h
  · omega
  · rename_i h1
    split at h
    · omega
    · rename_i h2
      split at h
      · omega
      · rename_i h3
        refine ⟨(contains_iff nts r.nt).1 (by rw [Bool.not_eq_false] at h1; exact h1), ?_⟩
        rw [not_or] at h2
        obtain ⟨h4, h5⟩ := h2
        by_cases hk : r.kd = ⟨#[]⟩
        · left
          refine ⟨hk, ?_⟩
          have he : empty r.kd = true := (empty_iff _).2 hk
          rw [he] at h4
          by_cases ho : r.oc = ⟨#[]⟩
          · exact ho
          · exact absurd (by rw [(empty_false _).2 ho]; rfl) h4
        · right
          have he : empty r.kd = false := (empty_false _).2 hk
          rw [he] at h4 h5
          refine ⟨hk, ?_, ?_, ?_, by omega⟩
          · intro ho
            exact h4 (by rw [(empty_iff _).2 ho]; rfl)
          · cases ht : typed r.kd.data.toList with
            | true => rfl
            | false => exact absurd ⟨rfl, .inl ht⟩ h5
          · by_cases hu : (⟨(Txt.upper r.kd.data.toList).toArray⟩ : ByteArray) = r.kd
            · exact hu
            · exact absurd ⟨rfl, .inr hu⟩ h5
theorem rright_of (r : Rc) (h : ROk r) : r.right = 0 := by
  unfold Rc.right rightRcpt
  have h1 : Lib.containsS nts r.nt = true := (contains_iff _ _).2 h.nt
  have h1' : ¬ (Lib.containsS [⟨#[]⟩, ⟨#[78]⟩, ⟨#[83]⟩, ⟨#[70]⟩, ⟨#[68]⟩, ⟨#[83, 70]⟩, ⟨#[83, 68]⟩, ⟨#[70, 68]⟩, ⟨#[83, 70, 68]⟩] r.nt = false) := fun q => Bool.false_ne_true (q.symm.trans h1)
  rw [if_neg h1']
  rcases h.ko with ⟨k1, k2⟩ | ⟨k1, k2, k3, k4, k5⟩
  · rw [if_neg, if_neg]
    · rw [k2]; decide
    · rw [k1, k2, (empty_iff _).2 rfl]
      rintro (q | ⟨q, _⟩)
      · simp at q
      · cases q
  · rw [if_neg, if_neg (by omega)]
    rw [(empty_false _).2 k1, (empty_false _).2 k2, k3]
    rintro (q | ⟨_, q | q⟩)
    · simp at q
    · simp at q
    · exact q k4
/-- The words of a recipient. -/
def Rc.words (r : Rc) : List ByteArray := more (!r.kd.toList.isEmpty) ⟨#[79, 82, 67, 80, 84]⟩ (r.kd ++ ⟨#[59]⟩ ++ encB r.oc) (more (decide (nameK r.nt 3 ≠ [])) ⟨#[78, 79, 84, 73, 70, 89]⟩ (joinB (nameK r.nt 3) ⟨#[44]⟩) [])
def Rc.text (r : Rc) : ByteArray := rcptText r.nt r.kd r.oc
theorem bytes_assoc (a b c : ByteArray) : a ++ b ++ c = a ++ (b ++ c) := by
  apply ByteArray.ext
  simp [Array.append_assoc]
theorem rtext_words (r : Rc) : r.text = joinB r.words ⟨#[32]⟩ := by
  unfold Rc.text rcptText Rc.words
  congr 1
  have h1 : wNt r.nt = more (decide (nameK r.nt 3 ≠ [])) ⟨#[78, 79, 84, 73, 70, 89]⟩ (joinB (nameK r.nt 3) ⟨#[44]⟩) [] := by
    unfold wNt more word
    by_cases hn : nameK r.nt 3 = []
    · rw [if_pos hn, if_neg (by simp [hn])]
    · rw [if_neg hn, if_pos (by simp [hn]), List.nil_append]
      rfl
  rw [h1]
  cases hk : (r.kd.toList == []) with
  | true =>
    have hk2 : (!r.kd.toList.isEmpty) = false := by
      have : r.kd.toList = [] := by simpa using hk
      rw [this]; rfl
    rw [hk2, if_pos rfl, List.append_nil]
    rfl
  | false =>
    have hk2 : (!r.kd.toList.isEmpty) = true := by
      have : r.kd.toList ≠ [] := by simpa using hk
      simpa using this
    rw [hk2, if_neg (by simp)]
    unfold more
    rw [if_pos rfl]
    unfold wOc word
    congr 2
theorem decoded_enc (oc : ByteArray) (n : Int) (h0 : oc ≠ ⟨#[]⟩) (h1 : (oc.size : Int) ≤ n) : decoded (encB oc).data.toList n = (oc.data.toList, 0) := by
  unfold decoded
  rw [show (encB oc).data.toList = Tx.enc oc.data.toList from rfl, Tx.dec_enc]
  cases hl : oc.data.toList with
  | nil => exact absurd (ByteArray.ext (Array.toList_inj.1 hl)) h0
  | cons c r =>
    have hz : oc.data.toList.length = oc.size := by simp
    rw [hl] at hz
    simp only
    rw [if_neg (by omega)]
theorem typed_no (l : List UInt8) (h : typed l = true) (b : UInt8) (hb : Txt.letter b = false) : b ∉ l := by
  intro hm
  unfold typed at h
  rw [Bool.and_eq_true] at h
  have := List.all_eq_true.1 h.2 b hm
  rw [hb] at this
  cases this
theorem nt_facts : ∀ nt ∈ nts, (nameK nt 3 ≠ [] → Pm.notify (joinB (nameK nt 3) ⟨#[44]⟩) = (nt.data.toList, 0) ∧ 32 ∉ (joinB (nameK nt 3) ⟨#[44]⟩).data.toList) ∧ (nameK nt 3 = [] → nt = ⟨#[]⟩) := by
  intro nt h
  simp only [nts, List.mem_cons, List.not_mem_nil, or_false] at h
  rcases h with rfl | rfl | rfl | rfl | rfl | rfl | rfl | rfl | rfl
  · exact ⟨fun q => absurd (by kernel_rfl) q, fun _ => rfl⟩
  all_goals exact ⟨fun _ => ⟨by kernel_rfl, by decide +kernel⟩, fun q => absurd q (by decide +kernel)⟩
theorem rwords_run (r : Rc) (h : ROk r) : ∃ seen, ∀ rest, wordsRun rcptPlain (r.words ++ rest) [] Rc.zero = wordsRun rcptPlain rest seen r := by
  obtain ⟨nt, kd, oc⟩ := r
  obtain ⟨h1, h2⟩ := h
  simp only at h1 h2
  have hnt := nt_facts nt h1
  have r0 : ∀ rest, wordsRun rcptPlain ([] ++ rest) [] Rc.zero = wordsRun rcptPlain rest [] Rc.zero := fun rest => rfl
  obtain ⟨s1, r1, m1⟩ := more_runs (old := []) (x' := { Rc.zero with nt := nt }) r0 (fun y hy => hy) (decide (nameK nt 3 ≠ [])) ⟨#[78, 79, 84, 73, 70, 89]⟩ (joinB (nameK nt 3) ⟨#[44]⟩) (by decide) (by rfl) (by simp) ⟨⟨#[78, 79, 84, 73, 70, 89]⟩, 0, #[], stNt⟩ (by rfl)
    (by intro q
        have hn := (hnt.1 (by simpa using q)).1
        show ({ Rc.zero with nt := ⟨(notify (joinB (nameK nt 3) ⟨#[44]⟩)).1.toArray⟩ }, (notify (joinB (nameK nt 3) ⟨#[44]⟩)).2) = _
        rw [hn])
    (by intro q
        rw [hnt.2 (by simpa using q)]
        rfl)
  clear r0
  obtain ⟨s2, r2, m2⟩ := more_runs (x' := ⟨nt, kd, oc⟩) r1 m1 (!kd.toList.isEmpty) ⟨#[79, 82, 67, 80, 84]⟩ (kd ++ ⟨#[59]⟩ ++ encB oc) (by decide) (by rfl) (by simp) ⟨⟨#[79, 82, 67, 80, 84]⟩, 0, #[], stOc⟩ (by rfl)
    (by intro q
        rcases h2 with ⟨k1, _⟩ | ⟨k1, k2, k3, k4, k5⟩
        · exact absurd k1 (empty_ne q)
        · have hcut : Lib.cut (kd ++ ⟨#[59]⟩ ++ encB oc).data.toList [59] = (kd.data.toList, (encB oc).data.toList, true) := by
            have : (kd ++ ⟨#[59]⟩ ++ encB oc).data.toList = kd.data.toList ++ 59 :: (encB oc).data.toList := by simp
            rw [this, Tok.cut_eq]
            exact Tok.cut_at _ (typed_no _ k3 59 (by decide))
          show stOc _ _ = _
          unfold stOc
          rw [hcut]
          simp only
          rw [if_neg (by rw [k3]; simp), decoded_enc oc 256 k2 (by omega), show (⟨(Txt.upper kd.data.toList).toArray⟩ : ByteArray) = kd from k4])
    (by intro q
        have hk := empty_eq q
        rcases h2 with ⟨k1, k2⟩ | ⟨k1, _⟩
        · rw [k1, k2]; rfl
        · exact absurd hk k1)
  exact ⟨s2, r2⟩
theorem rwords_no32 (r : Rc) (h : ROk r) : ∀ w ∈ r.words, 32 ∉ w.data.toList := by
  unfold Rc.words
  refine more_mem (more_mem (by simp) ?_) ?_
  · intro q
    exact no32_word (by decide) (by decide) ((nt_facts r.nt h.nt).1 (by simpa using q)).2
  · intro q
    refine no32_word (by decide) (by decide) ?_
    rcases h.ko with ⟨k1, _⟩ | ⟨k1, k2, k3, k4, k5⟩
    · exact absurd k1 (empty_ne q)
    · simp only [ByteArray.data_append, Array.toList_append, List.mem_append, not_or]
      exact ⟨⟨typed_no _ k3 32 (by decide), by decide⟩, Tx.enc_no32 _⟩
theorem rwords_full (r : Rc) : ∀ w ∈ r.words, w.data.toList ≠ [] := by
  have hw : ∀ key val : ByteArray, (word key val).data.toList ≠ [] := fun key val => by simp [word]
  unfold Rc.words
  exact more_mem (more_mem (by simp) (fun _ => hw _ _)) (fun _ => hw _ _)
/-- What was printed is parsed. -/
theorem rparse_printed (r : Rc) (h : r.right = 0) : parseRcpt r.text = (r, 0) := by
  have hok := rright_zero r h
  obtain ⟨seen, hrun⟩ := rwords_run r hok
  have h0 : wordsRun rcptPlain r.words [] Rc.zero = (r, 0) := by
    have := hrun []
    rw [List.append_nil] at this
    rw [this]
    rfl
  have hall : wordsAll rcptPlain r.text Rc.zero = (r, 0) := by
    rw [rtext_words]
    unfold wordsAll
    by_cases hw : r.words = []
    · rw [hw] at h0 ⊢
      rw [if_pos (by rfl)]
      exact h0
    · rw [if_neg (joinB_ne _ _ hw (rwords_full r)), parts_join 32 r.words hw (rwords_no32 r hok)]
      exact h0
  unfold parseRcpt
  rw [hall]
  simp only
  rw [if_neg (by simp)]
theorem rzero_ok : ROk Rc.zero := ⟨by simp [nts, Rc.zero], .inl ⟨rfl, rfl⟩⟩
theorem ntOne_or (st : List ByteArray × List UInt8) (nm : ByteArray) (c : UInt8) : (ntOne st nm c).2 = st.2 ∨ (ntOne st nm c).2 = st.2 ++ [c] := by
  unfold ntOne
  split
  · exact .inr rfl
  · exact .inl rfl
theorem notify_nts (v : ByteArray) : (⟨(Pm.notify v).1.toArray⟩ : ByteArray) ∈ nts := by
  unfold Pm.notify
  split
  · simp [nts]
  · split
    · simp [nts]
    · unfold ntAll
      rcases ntOne_or (parts 44 (upB v), []) nSuc 83 with a | a <;>
      rcases ntOne_or (ntOne (parts 44 (upB v), []) nSuc 83) nFai 70 with b | b <;>
      rcases ntOne_or (ntOne (ntOne (parts 44 (upB v), []) nSuc 83) nFai 70) nDel 68 with c | c <;>
      · simp only [c, b, a, List.nil_append, List.cons_append]; simp [nts]
theorem rsteps_ok : ∀ K ∈ rcptPlain, ∀ v s, ROk s → (K.step v s).2 = 0 → ROk (K.step v s).1 := by
  intro K hK v r h h0
  simp only [rcptPlain, List.mem_cons, List.not_mem_nil, or_false] at hK
  rcases hK with rfl | rfl
  · exact ⟨notify_nts v, h.ko⟩
  · show ROk (stOc v r).1
    have h1 : (stOc v r).2 = 0 := h0
    unfold stOc at h1 ⊢
    split at h1
    · simp at h1
    · rename_i ht
      rw [if_neg ht]
      have ht : typed (Lib.cut v.data.toList [59]).1 = true := by simpa using ht
      generalize Lib.cut v.data.toList [59] = q at ht h1
      have hd := decoded_zero h1
      have ht2 := ht
      unfold typed at ht2
      rw [Bool.and_eq_true, decide_eq_true_eq] at ht2
      have hlen : (Txt.upper q.1).length = q.1.length := by simp [Txt.upper]
      refine ⟨h.nt, .inr ⟨?_, ?_, ?_, ?_, ?_⟩⟩
      · intro e
        have : (Txt.upper q.1) = [] := by
          have := congrArg (fun b : ByteArray => b.data.toList) e
          simpa using this
        rw [this] at hlen
        simp at hlen
        omega
      · intro e
        apply hd.2
        have := congrArg (fun b : ByteArray => b.data.toList) e
        simpa using this
      · show typed (Txt.upper q.1) = true
        unfold typed
        rw [hlen, Txt.all_letter_upper]
        exact ht
      · show (⟨(Txt.upper (Txt.upper q.1)).toArray⟩ : ByteArray) = ⟨(Txt.upper q.1).toArray⟩
        rw [Txt.upper_upper]
      · show (decoded q.2.1 256).1.toArray.size ≤ 256
        rw [List.size_toArray]
        omega
/-- What is parsed of any text may be printed. -/
theorem rparse_right (t : ByteArray) (h : (parseRcpt t).2 = 0) : (parseRcpt t).1.right = 0 := by
  unfold parseRcpt at h ⊢
  split at h
  · rename_i hn; exact absurd h hn
  · rename_i hn
    rw [if_neg hn]
    exact rright_of _ (all_inv rsteps_ok t Rc.zero rzero_ok (by simpa using hn))
end Pm
end Go.Proofs.YtllhbcpbihhdnaaGreatDoor
end
section
set_option linter.unusedVariables false
set_option linter.unusedSimpArgs false
namespace Go.Proofs.YtllhbcpbihhdnaaGreatDoor
open Go.RowKit Go.Shelf Pm
set_option maxRecDepth 100000
namespace Cm
/-- A text out of a row of bytes. -/
def tx (l : List UInt8) : ByteArray := ⟨l.toArray⟩
theorem tx_data (l : List UInt8) : (tx l).data.toList = l := by simp [tx]
theorem tx_of (s : ByteArray) : tx s.data.toList = s := by apply ByteArray.ext; simp [tx]
theorem tx_inj {a b : List UInt8} (h : tx a = tx b) : a = b := by rw [← tx_data a, h, tx_data]
theorem tx_size (l : List UInt8) : (tx l).size = l.length := by simp [tx, ByteArray.size]
structure Cmd where
  verb : List UInt8
  arg : List UInt8
  lo : List UInt8
  dm : List UInt8
  ml : Ml
  rc : Rc
def Cmd.cells (c : Cmd) : Array Value := #[.string (tx c.verb), .string (tx c.arg), .string (tx c.lo), .string (tx c.dm), .bool c.ml.hS, .bool c.ml.hF, .bool c.ml.hU, .bool c.ml.hB, .bool c.ml.hP, .int .i64 c.ml.s, .int .i64 c.ml.f, .int .i64 c.ml.u, .int .i64 c.ml.b, .int .i64 c.ml.p, .string c.ml.body, .string c.ml.ret, .string c.ml.envid, .string c.ml.mode, .string c.rc.nt, .string c.rc.kd, .string c.rc.oc]
def Cmd.zero : Cmd := ⟨[], [], [], [], Ml.zero, Rc.zero⟩
def vHELO : List UInt8 := [72, 69, 76, 79]
def vEHLO : List UInt8 := [69, 72, 76, 79]
def vMAIL : List UInt8 := [77, 65, 73, 76]
def vRCPT : List UInt8 := [82, 67, 80, 84]
def vDATA : List UInt8 := [68, 65, 84, 65]
def vRSET : List UInt8 := [82, 83, 69, 84]
def vQUIT : List UInt8 := [81, 85, 73, 84]
def vNOOP : List UInt8 := [78, 79, 79, 80]
def vVRFY : List UInt8 := [86, 82, 70, 89]
def vHELP : List UInt8 := [72, 69, 76, 80]
def verbs : List (List UInt8) := [vHELO, vEHLO, vMAIL, vRCPT, vDATA, vRSET, vQUIT, vNOOP, vVRFY, vHELP]
/-- Bytes 32 to 126, no blanks at its ends. -/
def shown (l : List UInt8) : Bool := Pt.shown l && (Go.Lib.trimB l 32 == l)
def stDom (c : Cmd) (rest : List UInt8) (has : Bool) : Cmd × Int := if has = false ∨ (Pt.domain rest).2 ≠ 0 then (c, 2) else ({ c with arg := (Pt.domain rest).1 }, 0)
def stNone (c : Cmd) (rest : List UInt8) (has : Bool) : Cmd × Int := if has = true then (c, 2) else (c, 0)
def stText (c : Cmd) (rest : List UInt8) (has : Bool) : Cmd × Int := if (has = true ∧ (rest = [] ∨ shown rest = false)) ∨ (has = false ∧ c.verb = vVRFY) then (c, 2) else ({ c with arg := rest }, 0)
def kFrom : List UInt8 := [70, 82, 79, 77, 58]
def kTo : List UInt8 := [84, 79, 58]
/-- A path behind a word; the words behind it. -/
def wh (rest word : List UInt8) : (List UInt8 × List UInt8) × List UInt8 × Int :=
  if rest.length < word.length ∨ Txt.upper (rest.take word.length) ≠ word then (([], []), [], 2)
  else if (Pt.parse (rest.drop word.length)).2.2 ≠ 0 then (([], []), [], (Pt.parse (rest.drop word.length)).2.2)
  else match (Pt.parse (rest.drop word.length)).2.1 with
    | [] => ((Pt.parse (rest.drop word.length)).1, [], 0)
    | 32 :: x :: w => ((Pt.parse (rest.drop word.length)).1, x :: w, 0)
    | _ => (([], []), [], 2)
def stFrom (c : Cmd) (rest : List UInt8) (has : Bool) : Cmd × Int :=
  if (wh rest kFrom).2.2 ≠ 0 then (c, (wh rest kFrom).2.2)
  else if (wh rest kFrom).1.2 = [] ∧ (wh rest kFrom).1.1 ≠ [] then ({ c with lo := (wh rest kFrom).1.1, dm := (wh rest kFrom).1.2 }, 2)
  else ({ c with lo := (wh rest kFrom).1.1, dm := (wh rest kFrom).1.2, ml := (parseMail (tx (wh rest kFrom).2.1)).1 }, (parseMail (tx (wh rest kFrom).2.1)).2)
def stTo (c : Cmd) (rest : List UInt8) (has : Bool) : Cmd × Int :=
  if (wh rest kTo).2.2 ≠ 0 then (c, (wh rest kTo).2.2)
  else if (wh rest kTo).1.2 = [] ∧ (wh rest kTo).1.1 = [] then ({ c with lo := (wh rest kTo).1.1, dm := (wh rest kTo).1.2 }, 2)
  else ({ c with lo := (wh rest kTo).1.1, dm := (wh rest kTo).1.2, rc := (parseRcpt (tx (wh rest kTo).2.1)).1 }, (parseRcpt (tx (wh rest kTo).2.1)).2)
/-- What a verb does. -/
def does (v : List UInt8) : Option (Cmd → List UInt8 → Bool → Cmd × Int) :=
  if v = vHELO ∨ v = vEHLO then some stDom else if v = vMAIL then some stFrom else if v = vRCPT then some stTo
  else if v = vDATA ∨ v = vRSET ∨ v = vQUIT then some stNone else if v = vNOOP ∨ v = vVRFY ∨ v = vHELP then some stText else none
def verb (s : List UInt8) : List UInt8 := Txt.upper (Tok.cut 32 s).1
def trimR (s : List UInt8) : List UInt8 := Go.Lib.trimRightB s 32
/-- Of a line whose blanks at the end are off. -/
def run (s : List UInt8) : Cmd × Int :=
  match does (verb s) with
  | none => (Cmd.zero, 10)
  | some f =>
    if (f { Cmd.zero with verb := verb s } (Tok.cut 32 s).2.1 (Tok.cut 32 s).2.2).2 ≠ 0 then (Cmd.zero, (f { Cmd.zero with verb := verb s } (Tok.cut 32 s).2.1 (Tok.cut 32 s).2.2).2)
    else ((f { Cmd.zero with verb := verb s } (Tok.cut 32 s).2.1 (Tok.cut 32 s).2.2).1, 0)
def parse (s : List UInt8) : Cmd × Int := run (trimR s)
open Classical in
/-- A command's line, with no look at its length. -/
noncomputable def line (c : Cmd) : List UInt8 × Int :=
  if c.verb ∉ verbs then ([], 10)
  else if c.verb = vMAIL then
    if c.arg ≠ [] ∨ c.rc ≠ Rc.zero ∨ (c.dm = [] ∧ c.lo ≠ []) then ([], 2)
    else if Pt.right c.lo c.dm ≠ 0 then ([], Pt.right c.lo c.dm)
    else if c.ml.right ≠ 0 then ([], c.ml.right)
    else (trimR (vMAIL ++ 32 :: (kFrom ++ Pt.text c.lo c.dm ++ 32 :: c.ml.text.data.toList)), 0)
  else if c.verb = vRCPT then
    if c.arg ≠ [] ∨ c.ml ≠ Ml.zero ∨ (c.dm = [] ∧ c.lo = []) then ([], 2)
    else if Pt.right c.lo c.dm ≠ 0 then ([], Pt.right c.lo c.dm)
    else if c.rc.right ≠ 0 then ([], c.rc.right)
    else (trimR (vRCPT ++ 32 :: (kTo ++ Pt.text c.lo c.dm ++ 32 :: c.rc.text.data.toList)), 0)
  else
    if c.lo ≠ [] ∨ c.dm ≠ [] ∨ c.ml ≠ Ml.zero ∨ c.rc ≠ Rc.zero ∨ parse (c.verb ++ (if c.arg = [] then [] else 32 :: c.arg)) ≠ (c, 0) then ([], 2)
    else (c.verb ++ (if c.arg = [] then [] else 32 :: c.arg), 0)
noncomputable def print (c : Cmd) : List UInt8 × Int := if (line c).2 ≠ 0 then ([], (line c).2) else if 510 < (line c).1.length then ([], 3) else line c
end Cm
end Go.Proofs.YtllhbcpbihhdnaaGreatDoor
end
section
set_option linter.unusedVariables false
set_option linter.unusedSimpArgs false
namespace Go.Proofs.YtllhbcpbihhdnaaGreatDoor
open Go.RowKit Go.Shelf Pm
set_option maxRecDepth 100000
namespace Pm
/-- A message's numbers are of 64 bits, its texts short. -/
structure Fit (m : Ml) : Prop where
  s : I64 m.s
  f : I64 m.f
  b : I64 m.b
  p : I64 m.p
  body : m.body.size ≤ 2000
  ret : m.ret.size ≤ 2000
  mode : m.mode.size ≤ 2000
theorem ok_fit (m : Ml) (h : MOk m) : Fit m := by
  have hb : m.body.size ≤ 2000 := by
    rcases h.body with k | k
    · rw [k]; decide
    · simp only [List.mem_cons, List.not_mem_nil, or_false] at k
      rcases k with k | k <;> rw [k] <;> decide
  have hr : m.ret.size ≤ 2000 := by
    rcases h.ret with k | k
    · rw [k]; decide
    · simp only [List.mem_cons, List.not_mem_nil, or_false] at k
      rcases k with k | k <;> rw [k] <;> decide
  have hm : m.mode.size ≤ 2000 ∧ -999999999 ≤ least m.mode := by
    refine ⟨?_, by unfold least; split <;> omega⟩
    rcases h.b with k | k
    · rw [k.2.2]; decide
    · have k0 := k.2.1
      simp only [modes, List.mem_cons, List.not_mem_nil, or_false] at k0
      rcases k0 with k | k | k | k <;> rw [k] <;> decide
  refine ⟨?_, ?_, ?_, ?_, hb, hr, hm.1⟩
  · unfold I64; rcases h.s with k | k <;> omega
  · unfold I64; rcases h.f with k | k <;> omega
  · unfold I64; rcases h.b with k | k <;> omega
  · unfold I64; rcases h.p with k | k <;> omega
theorem date_size (u : Int) : (dateB u).size ≤ 20 := by
  unfold dateB
  split
  · have : (DtCal.text u).length = 20 := rfl
    simp [ByteArray.size, this]
  · simp [ByteArray.size]
theorem enc_size (s : ByteArray) : (encB s).size ≤ 3 * s.size := by
  have h := Tx.enc_len s.data.toList
  have h2 : s.data.toList.length = s.size := by simp
  show (Tx.enc s.data.toList).toArray.size ≤ _
  simp only [List.size_toArray]
  omega
theorem text_size (m : Ml) (h : Fit m) (he : m.envid.size ≤ 100) : m.text.size ≤ 100000 := by
  have hw : m.words.length ≤ 8 := by
    unfold Ml.words words8
    exact more_len _ _ _ _ 7 (more_len _ _ _ _ 6 (more_len _ _ _ _ 5 (more_len _ _ _ _ 4 (more_len _ _ _ _ 3 (more_len _ _ _ _ 2 (more_len _ _ _ _ 1 (more_len _ _ _ _ 0 (by simp))))))))
  have e1 := itoaB_size m.s h.s
  have e2 := itoaB_size m.f h.f
  have e3 := itoaB_size m.b h.b
  have e4 := itoaB_size m.p h.p
  have e5 := date_size m.u
  have e6 := enc_size m.envid
  have e7 := h.body
  have e8 := h.ret
  have e9 := h.mode
  have q0 : (⟨#[83, 73, 90, 69]⟩ : ByteArray).size = 4 := rfl
  have q1 : (⟨#[66, 79, 68, 89]⟩ : ByteArray).size = 4 := rfl
  have q2 : (⟨#[82, 69, 84]⟩ : ByteArray).size = 3 := rfl
  have q3 : (⟨#[69, 78, 86, 73, 68]⟩ : ByteArray).size = 5 := rfl
  have q4 : (⟨#[72, 79, 76, 68, 70, 79, 82]⟩ : ByteArray).size = 7 := rfl
  have q5 : (⟨#[72, 79, 76, 68, 85, 78, 84, 73, 76]⟩ : ByteArray).size = 9 := rfl
  have q6 : (⟨#[66, 89]⟩ : ByteArray).size = 2 := rfl
  have q7 : (⟨#[77, 84, 45, 80, 82, 73, 79, 82, 73, 84, 89]⟩ : ByteArray).size = 11 := rfl
  have q8 : (⟨#[59]⟩ : ByteArray).size = 1 := rfl
  have q9 : (⟨#[78, 79, 84, 73, 70, 89]⟩ : ByteArray).size = 6 := rfl
  have q10 : (⟨#[79, 82, 67, 80, 84]⟩ : ByteArray).size = 5 := rfl
  have hf : flatLen m.words ≤ 20000 := by
    unfold Ml.words words8
    refine Nat.le_trans (more_flat _ _ _ _ 17000 100 (more_flat _ _ _ _ 14000 2500 (more_flat _ _ _ _ 13500 100 (more_flat _ _ _ _ 13000 100 (more_flat _ _ _ _ 12000 500 (more_flat _ _ _ _ 9000 2500 (more_flat _ _ _ _ 1000 2500 (more_flat _ _ _ _ 0 100 (by simp [flatLen]) ?_ |> fun x => Nat.le_trans x (by omega)) ?_ |> fun x => Nat.le_trans x (by omega)) ?_ |> fun x => Nat.le_trans x (by omega)) ?_ |> fun x => Nat.le_trans x (by omega)) ?_ |> fun x => Nat.le_trans x (by omega)) ?_ |> fun x => Nat.le_trans x (by omega)) ?_ |> fun x => Nat.le_trans x (by omega)) ?_) (by omega)
    all_goals ((try simp only [ByteArray.size_append]); omega)
  rw [text_words]
  have hj := join_len [32] m.words
  show (Lib.join (m.words.map (·.data.toList)) [32]).toArray.size ≤ _
  simp only [List.size_toArray]
  simp at hj
  omega
theorem rtext_size (r : Rc) (hk : r.kd.size ≤ 2000) (ho : r.oc.size ≤ 2000) : r.text.size ≤ 100000 := by
  have h1 := join_len [44] (nameK r.nt 3)
  have h2 := nameK_len r.nt
  have h3 := nameK_flat r.nt
  have hj : (joinB (nameK r.nt 3) ⟨#[44]⟩).size ≤ 100 := by
    show (Lib.join ((nameK r.nt 3).map (·.data.toList)) [44]).toArray.size ≤ _
    simp only [List.size_toArray]
    simp at h1
    omega
  have he := enc_size r.oc
  have hw : r.words.length ≤ 2 := by
    unfold Rc.words
    exact more_len _ _ _ _ 1 (more_len _ _ _ _ 0 (by simp))
  have q0 : (⟨#[83, 73, 90, 69]⟩ : ByteArray).size = 4 := rfl
  have q1 : (⟨#[66, 79, 68, 89]⟩ : ByteArray).size = 4 := rfl
  have q2 : (⟨#[82, 69, 84]⟩ : ByteArray).size = 3 := rfl
  have q3 : (⟨#[69, 78, 86, 73, 68]⟩ : ByteArray).size = 5 := rfl
  have q4 : (⟨#[72, 79, 76, 68, 70, 79, 82]⟩ : ByteArray).size = 7 := rfl
  have q5 : (⟨#[72, 79, 76, 68, 85, 78, 84, 73, 76]⟩ : ByteArray).size = 9 := rfl
  have q6 : (⟨#[66, 89]⟩ : ByteArray).size = 2 := rfl
  have q7 : (⟨#[77, 84, 45, 80, 82, 73, 79, 82, 73, 84, 89]⟩ : ByteArray).size = 11 := rfl
  have q8 : (⟨#[59]⟩ : ByteArray).size = 1 := rfl
  have q9 : (⟨#[78, 79, 84, 73, 70, 89]⟩ : ByteArray).size = 6 := rfl
  have q10 : (⟨#[79, 82, 67, 80, 84]⟩ : ByteArray).size = 5 := rfl
  have hf : flatLen r.words ≤ 20000 := by
    unfold Rc.words
    refine Nat.le_trans (more_flat _ _ _ _ 1000 10000 (more_flat _ _ _ _ 0 200 (by simp [flatLen]) ?_ |> fun x => Nat.le_trans x (by omega)) ?_) (by omega)
    all_goals ((try simp only [ByteArray.size_append]); omega)
  rw [rtext_words]
  have hj := join_len [32] r.words
  show (Lib.join (r.words.map (·.data.toList)) [32]).toArray.size ≤ _
  simp only [List.size_toArray]
  simp at hj
  omega
def Ml.small (m : Ml) : Bool := decide (m.body.size + m.ret.size + m.envid.size + m.mode.size ≤ 2000)
def Rc.small (r : Rc) : Bool := decide (r.nt.size + r.kd.size + r.oc.size ≤ 2000)
end Pm
theorem printMail_ml (m : Ml) (h : Fit m) (w : World) (hl : Lv w) : Calls Tryz.prog 27 #[.agg m.cells] w fun e w' => e = .returned (.tuple #[.string (if m.right = 0 then m.text else ⟨#[]⟩), .int .i64 m.right]) ∧ Below w.heap.size w w' :=
  printMail_any m.hS m.hF m.hU m.hB m.hP m.s m.f m.u m.b m.p m.body m.ret m.envid m.mode w hl.tab h.s h.f h.b h.p h.body h.ret h.mode
theorem printRcpt_rc (r : Rc) (h1 : r.kd.size ≤ 2000) (h2 : r.oc.size ≤ 2000) (w : World) : Calls Tryz.prog 28 #[.agg r.cells] w fun e w' => e = .returned (.tuple #[.string (if r.right = 0 then r.text else ⟨#[]⟩), .int .i64 r.right]) ∧ Below w.heap.size w w' :=
  printRcpt_any r.nt r.kd r.oc w (by omega) (by omega)
set_option maxHeartbeats 2000000 in
theorem small_ml (m : Ml) (r : Rc) (hm : m.body.size + m.ret.size + m.envid.size + m.mode.size ≤ 9000000000000000000) (hr : r.nt.size + r.kd.size + r.oc.size ≤ 9000000000000000000) (w : World) :
    Calls Tryz.prog 17 #[.agg m.cells, .agg r.cells] w fun e w' => e = .returned (.bool (m.small && r.small)) ∧ Below w.heap.size w w' := by
  obtain ⟨hS, hF, hU, hB, hP, s, f, u, b, p, body, ret, envid, mode⟩ := m
  obtain ⟨nt, kd, oc⟩ := r
  simp only at hm hr
  unfold Ml.cells Rc.cells Ml.small Rc.small
  simp only
  by_cases h1 : body.size + ret.size + envid.size + mode.size ≤ 2000
  · rw [decide_eq_true h1]
    by_cases h2 : nt.size + kd.size + oc.size ≤ 2000
    · rw [decide_eq_true h2]
      have d1 : decide ((body.size : Int) + ret.size + envid.size + mode.size ≤ 2000) = true := decide_eq_true (by omega)
      have d2 : decide ((nt.size : Int) + kd.size + oc.size ≤ 2000) = true := decide_eq_true (by omega)
      go_enter Tryz.func17, Tryz.ntmps17
      go_wp2
      go_ret
      exact ⟨rfl, ((Below.refl _ _).alloc (Nat.le_refl _) _).alloc (by simp) _⟩
    · rw [decide_eq_false h2]
      have d1 : decide ((body.size : Int) + ret.size + envid.size + mode.size ≤ 2000) = true := decide_eq_true (by omega)
      have d2 : decide ((nt.size : Int) + kd.size + oc.size ≤ 2000) = false := decide_eq_false (by omega)
      go_enter Tryz.func17, Tryz.ntmps17
      go_wp2
      go_ret
      exact ⟨rfl, ((Below.refl _ _).alloc (Nat.le_refl _) _).alloc (by simp) _⟩
  · rw [decide_eq_false h1]
    have d1 : decide ((body.size : Int) + ret.size + envid.size + mode.size ≤ 2000) = false := decide_eq_false (by omega)
    go_enter Tryz.func17, Tryz.ntmps17
    go_wp2
    go_ret
    exact ⟨rfl, ((Below.refl _ _).alloc (Nat.le_refl _) _).alloc (by simp) _⟩
theorem neq_ml (m : Ml) (w : World) (a : Act) (o : Oper) (x y : Operand) (t' : TypeId) (ho : o.op = .binOp .neq 27 x y t') (hx : a.eval x = .agg m.cells) (hy : a.eval y = .agg m.cells) : (execOp a.eval o).run Tryz.prog w = .ok (.value (.bool false)) w := by
  obtain ⟨hS, hF, hU, hB, hP, s, f, u, b, p, body, ret, envid, mode⟩ := m
  simp only [execOp, ho, hx, hy]
  unfold Ml.cells
  go_simp
theorem neq_rc (m : Rc) (w : World) (a : Act) (o : Oper) (x y : Operand) (t' : TypeId) (ho : o.op = .binOp .neq 29 x y t') (hx : a.eval x = .agg m.cells) (hy : a.eval y = .agg m.cells) : (execOp a.eval o).run Tryz.prog w = .ok (.value (.bool false)) w := by
  obtain ⟨nt, kd, oc⟩ := m
  simp only [execOp, ho, hx, hy]
  unfold Rc.cells
  go_simp
section
variable {P : Program} {ops : Array Oper} {rest : List Oper} {o : Oper} {a : Act} {w : World} {Q : Exit → Act → World → Prop}
theorem step_value_g (hw : Region.wanted o (yielded ops a.tmps) = true) (v : Value) (hrun : (execOp a.eval o).run P w = .ok (.value v) w) (h : wpList P ops Q rest (a.put o.dst v) w) : wpList P ops Q (o :: rest) a w := by
  refine wpList_step fun K hK => ?_
  rw [if_pos hw]
  unfold Oper.wp
  rw [hrun]
  exact hK _ _ h
end
end Go.Proofs.YtllhbcpbihhdnaaGreatDoor
end
section
set_option linter.unusedVariables false
set_option linter.unusedSimpArgs false
namespace Go.Proofs.YtllhbcpbihhdnaaGreatDoor
open Go.RowKit Go.Shelf Pm
set_option maxRecDepth 100000
namespace Cm
theorem drop_head {p : UInt8 → Bool} : ∀ (l : List UInt8) (x : UInt8), (l.dropWhile p).head? = some x → p x = false
  | [], x, h => by simp at h
  | y :: l, x, h => by
    by_cases hy : p y = true
    · rw [List.dropWhile_cons_of_pos hy] at h; exact drop_head l x h
    · rw [List.dropWhile_cons_of_neg hy] at h
      simp at h
      subst h
      simpa using hy
theorem trimR_last (l : List UInt8) : (trimR l).getLast? ≠ some 32 := by
  unfold trimR Go.Lib.trimRightB
  rw [List.getLast?_reverse]
  intro h
  have := drop_head _ _ h
  simp at this
theorem trimR_id {l : List UInt8} (h : l.getLast? ≠ some 32) : trimR l = l := by
  unfold trimR Go.Lib.trimRightB
  have hh : l.reverse.head? ≠ some 32 := by rwa [List.head?_reverse]
  cases hr : l.reverse with
  | nil =>
    have : l = [] := by simpa using hr
    subst this
    rfl
  | cons x r =>
    rw [hr] at hh
    have hx : ¬ (x == 32) = true := by
      simp at hh
      simpa using hh
    rw [List.dropWhile_cons_of_neg (p := (· == 32)) hx, ← hr, List.reverse_reverse]
theorem trimR_add (s : List UInt8) : ∀ n, trimR (s ++ List.replicate n 32) = trimR s
  | 0 => by simp
  | n + 1 => by
    rw [List.replicate_succ', ← List.append_assoc]
    have ih := trimR_add s n
    unfold trimR Go.Lib.trimRightB at ih ⊢
    rw [List.reverse_append]
    show (List.dropWhile (· == 32) (32 :: (s ++ List.replicate n 32).reverse)).reverse = _
    rw [List.dropWhile_cons_of_pos (p := (· == 32)) (by decide), ih]
theorem trimR_snoc {l : List UInt8} {x : UInt8} (h : x ≠ 32) : trimR (l ++ [x]) = l ++ [x] := trimR_id (by simp [h])
theorem parse_trim (s : List UInt8) : parse (trimR s) = parse s := by unfold parse; rw [trimR_id (trimR_last s)]
theorem parse_add (s : List UInt8) (n : Nat) : parse (s ++ List.replicate n 32) = parse s := by unfold parse; rw [trimR_add]
theorem parse_id {s : List UInt8} (h : s.getLast? ≠ some 32) : parse s = run s := by unfold parse; rw [trimR_id h]
theorem cut_no {c : UInt8} {l : List UInt8} (h : c ∉ l) : Tok.cut c l = (l, [], false) := by
  induction l with
  | nil => rfl
  | cons x l ih =>
    simp only [List.mem_cons, not_or] at h
    unfold Tok.cut
    rw [if_neg (fun e => h.1 e.symm), ih h.2]
theorem text_last (lo dm : List UInt8) : (Pt.text lo dm).getLast? = some 62 := by
  unfold Pt.text
  split
  · rw [← List.cons_append, List.getLast?_append]; rfl
  · rw [show 60 :: (Pt.local_ lo ++ 64 :: (dm ++ [62])) = (60 :: (Pt.local_ lo ++ 64 :: dm)) ++ [62] by simp, List.getLast?_append]; rfl
theorem join_last : ∀ (ls : List (List UInt8)), (∀ l ∈ ls, l ≠ [] ∧ 32 ∉ l) → (List.intercalate [32] ls).getLast? ≠ some 32
  | [], _ => by simp [List.intercalate]
  | [x], h => by
    have : List.intercalate [32] [x] = x := by simp [List.intercalate]
    rw [this]
    intro q
    exact (h x (by simp)).2 (List.mem_of_getLast? q)
  | x :: y :: r, h => by
    rw [inter_cons, List.getLast?_append]
    have ih := join_last (y :: r) (fun l hl => h l (List.mem_cons_of_mem _ hl))
    intro q
    cases hl : (List.intercalate [32] (y :: r)).getLast? with
    | some z => rw [hl] at q ih; simp at q ih; exact ih q
    | none =>
      have hn : List.intercalate [32] (y :: r) = [] := by simpa using hl
      have := joinB_ne ((y :: r).map tx) ⟨#[32]⟩ (by simp) (fun w hw => by
        obtain ⟨l, hl, rfl⟩ := List.mem_map.1 hw
        rw [tx_data]
        exact (h l (List.mem_cons_of_mem _ hl)).1)
      apply this
      show List.intercalate [32] (((y :: r).map tx).map (·.data.toList)) = []
      rw [List.map_map]
      have e : ((fun x : ByteArray => x.data.toList) ∘ tx) = id := funext fun l => tx_data l
      rw [e, List.map_id]
      exact hn
theorem joinB_last (ws : List ByteArray) (h1 : ∀ w ∈ ws, w.data.toList ≠ []) (h2 : ∀ w ∈ ws, 32 ∉ w.data.toList) : (joinB ws ⟨#[32]⟩).data.toList.getLast? ≠ some 32 := by
  show (List.intercalate [32] (ws.map (·.data.toList))).getLast? ≠ some 32
  exact join_last _ (fun l hl => by obtain ⟨w, hw, rfl⟩ := List.mem_map.1 hl; exact ⟨h1 w hw, h2 w hw⟩)
theorem mtext_last (m : Ml) (h : m.right = 0) : m.text.data.toList.getLast? ≠ some 32 := by
  rw [text_words]
  exact joinB_last _ (words_full m) (words_no32 m (right_zero m h).1)
theorem rtext_last (r : Rc) (h : r.right = 0) : r.text.data.toList.getLast? ≠ some 32 := by
  rw [rtext_words]
  exact joinB_last _ (rwords_full r) (rwords_no32 r (rright_zero r h))
/-- A line of a path and words, its blanks off. -/
def plain (p w : List UInt8) : List UInt8 := if w = [] then p else p ++ 32 :: w
theorem trim_plain {p w : List UInt8} (hp : p.getLast? = some 62) (hw : w.getLast? ≠ some 32) (pre : List UInt8) : trimR (pre ++ (p ++ 32 :: w)) = pre ++ plain p w := by
  unfold plain
  have hpp : (pre ++ p).getLast? = some 62 := by rw [List.getLast?_append, hp]; rfl
  split
  · rename_i h
    subst h
    have := trimR_add (pre ++ p) 1
    rw [show List.replicate 1 (32 : UInt8) = [32] from rfl, List.append_assoc] at this
    rw [this]
    exact trimR_id (by rw [hpp]; simp)
  · rename_i h
    apply trimR_id
    rw [← List.append_assoc, List.getLast?_append]
    have : (32 :: w).getLast? = w.getLast? := by
      cases w with
      | nil => exact absurd rfl h
      | cons x r => rw [List.getLast?_cons_cons]
    rw [this]
    cases hl : w.getLast? with
    | none => exact absurd (by simpa using hl) h
    | some z => rw [hl] at hw; simpa using hw
theorem wh_plain {lo dm w word : List UInt8} (hu : Txt.upper word = word) (h : Pt.right lo dm = 0) (hw : w ≠ [] → ∃ x r, w = x :: r) : wh (word ++ plain (Pt.text lo dm) w) word = ((lo, dm), w, 0) := by
  have e1 : (word ++ plain (Pt.text lo dm) w).take word.length = word := by simp
  have e2 : (word ++ plain (Pt.text lo dm) w).drop word.length = plain (Pt.text lo dm) w := by simp
  have hp : Pt.parse (plain (Pt.text lo dm) w) = ((lo, dm), (if w = [] then [] else 32 :: w), 0) := by
    unfold plain
    split
    · have := Pt.parse_print h []
      rwa [List.append_nil] at this
    · exact Pt.parse_print h _
  unfold wh
  rw [e1, e2, hp, hu]
  rw [if_neg (by simp), if_neg (by simp)]
  by_cases h0 : w = []
  · subst h0; rfl
  · rw [if_neg h0]
    obtain ⟨x, r, rfl⟩ := hw h0
    rfl
theorem list_ne {l : List UInt8} (h : l ≠ []) : ∃ x r, l = x :: r := by
  cases l with
  | nil => exact absurd rfl h
  | cons x r => exact ⟨x, r, rfl⟩
theorem cut_at4 {v : List UInt8} (hv : 32 ∉ v) (r : List UInt8) : Tok.cut 32 (v ++ 32 :: r) = (v, r, true) := Tok.cut_at r hv
theorem run_at {v r : List UInt8} (hv : 32 ∉ v) (hu : Txt.upper v = v) (f : Cmd → List UInt8 → Bool → Cmd × Int) (hf : does v = some f) (c : Cmd) (h : f { Cmd.zero with verb := v } r true = (c, 0)) : run (v ++ 32 :: r) = (c, 0) := by
  unfold run verb
  rw [cut_at4 hv]
  simp only
  rw [hu, hf]
  simp only
  rw [h, if_neg (by simp)]
theorem run_no {v : List UInt8} (hv : 32 ∉ v) (hu : Txt.upper v = v) (f : Cmd → List UInt8 → Bool → Cmd × Int) (hf : does v = some f) (c : Cmd) (h : f { Cmd.zero with verb := v } [] false = (c, 0)) : run v = (c, 0) := by
  unfold run verb
  rw [cut_no hv]
  simp only
  rw [hu, hf]
  simp only
  rw [h, if_neg (by simp)]
theorem mtext_tx (m : Ml) : tx m.text.data.toList = m.text := tx_of _
theorem from_line (c : Cmd) (hv : c.verb = vMAIL) (ha : c.arg = []) (hrc : c.rc = Rc.zero) (hn : ¬ (c.dm = [] ∧ c.lo ≠ [])) (hp : Pt.right c.lo c.dm = 0) (hm : c.ml.right = 0) (v : List UInt8) (hv2 : 32 ∉ v) (hvu : Txt.upper v = vMAIL) (k : List UInt8) (hk : Txt.upper k = kFrom) (hkl : k.length = 5) :
    run (v ++ 32 :: (k ++ plain (Pt.text c.lo c.dm) c.ml.text.data.toList)) = (c, 0) := by
  have hw := wh_plain (word := kFrom) (lo := c.lo) (dm := c.dm) (w := c.ml.text.data.toList) (by decide) hp list_ne
  have hw2 : wh (k ++ plain (Pt.text c.lo c.dm) c.ml.text.data.toList) kFrom = ((c.lo, c.dm), c.ml.text.data.toList, 0) := by
    rw [← hw]
    unfold wh
    have e1 : (k ++ plain (Pt.text c.lo c.dm) c.ml.text.data.toList).take kFrom.length = k := by rw [show kFrom.length = k.length from hkl.symm]; simp
    have e2 : (k ++ plain (Pt.text c.lo c.dm) c.ml.text.data.toList).drop kFrom.length = plain (Pt.text c.lo c.dm) c.ml.text.data.toList := by rw [show kFrom.length = k.length from hkl.symm]; simp
    have e3 : (kFrom ++ plain (Pt.text c.lo c.dm) c.ml.text.data.toList).take kFrom.length = kFrom := by simp
    have e4 : (kFrom ++ plain (Pt.text c.lo c.dm) c.ml.text.data.toList).drop kFrom.length = plain (Pt.text c.lo c.dm) c.ml.text.data.toList := by simp
    have e5 : Txt.upper kFrom = kFrom := by decide
    rw [e1, e2, e3, e4, hk, e5]
    simp only [List.length_append, hkl]
    rfl
  unfold run verb
  rw [cut_at4 hv2]
  simp only
  rw [hvu, show does vMAIL = some stFrom from rfl]
  simp only
  have hs : stFrom { Cmd.zero with verb := vMAIL } (k ++ plain (Pt.text c.lo c.dm) c.ml.text.data.toList) true = (c, 0) := by
    unfold stFrom
    rw [hw2]
    simp only
    rw [if_neg (by simp), if_neg hn, mtext_tx, parse_printed c.ml hm]
    obtain ⟨v', a', lo', dm', ml', rc'⟩ := c
    simp only at hv ha hrc
    subst hv ha hrc
    rfl
  rw [hs, if_neg (by simp)]
theorem to_line (c : Cmd) (hv : c.verb = vRCPT) (ha : c.arg = []) (hml : c.ml = Ml.zero) (hn : ¬ (c.dm = [] ∧ c.lo = [])) (hp : Pt.right c.lo c.dm = 0) (hm : c.rc.right = 0) (v : List UInt8) (hv2 : 32 ∉ v) (hvu : Txt.upper v = vRCPT) (k : List UInt8) (hk : Txt.upper k = kTo) (hkl : k.length = 3) :
    run (v ++ 32 :: (k ++ plain (Pt.text c.lo c.dm) c.rc.text.data.toList)) = (c, 0) := by
  have hw := wh_plain (word := kTo) (lo := c.lo) (dm := c.dm) (w := c.rc.text.data.toList) (by decide) hp list_ne
  have hw2 : wh (k ++ plain (Pt.text c.lo c.dm) c.rc.text.data.toList) kTo = ((c.lo, c.dm), c.rc.text.data.toList, 0) := by
    rw [← hw]
    unfold wh
    have e1 : (k ++ plain (Pt.text c.lo c.dm) c.rc.text.data.toList).take kTo.length = k := by rw [show kTo.length = k.length from hkl.symm]; simp
    have e2 : (k ++ plain (Pt.text c.lo c.dm) c.rc.text.data.toList).drop kTo.length = plain (Pt.text c.lo c.dm) c.rc.text.data.toList := by rw [show kTo.length = k.length from hkl.symm]; simp
    have e3 : (kTo ++ plain (Pt.text c.lo c.dm) c.rc.text.data.toList).take kTo.length = kTo := by simp
    have e4 : (kTo ++ plain (Pt.text c.lo c.dm) c.rc.text.data.toList).drop kTo.length = plain (Pt.text c.lo c.dm) c.rc.text.data.toList := by simp
    have e5 : Txt.upper kTo = kTo := by decide
    rw [e1, e2, e3, e4, hk, e5]
    simp only [List.length_append, hkl]
    rfl
  unfold run verb
  rw [cut_at4 hv2]
  simp only
  rw [hvu, show does vRCPT = some stTo from rfl]
  simp only
  have hs : stTo { Cmd.zero with verb := vRCPT } (k ++ plain (Pt.text c.lo c.dm) c.rc.text.data.toList) true = (c, 0) := by
    unfold stTo
    rw [hw2]
    simp only
    rw [if_neg (by simp), if_neg hn, tx_of, rparse_printed c.rc hm]
    obtain ⟨v', a', lo', dm', ml', rc'⟩ := c
    simp only at hv ha hml
    subst hv ha hml
    rfl
  rw [hs, if_neg (by simp)]
end Cm
end Go.Proofs.YtllhbcpbihhdnaaGreatDoor
end
section
set_option linter.unusedVariables false
set_option linter.unusedSimpArgs false
namespace Go.Proofs.YtllhbcpbihhdnaaGreatDoor
open Go.RowKit Go.Shelf Pm
set_option maxRecDepth 100000
namespace Cm
theorem verb_facts : ∀ v ∈ verbs, 32 ∉ v ∧ Txt.upper v = v ∧ v.length = 4 ∧ (does v).isSome = true ∧ v.getLast? ≠ some 32 ∧ Txt.upper (v.map (· + 32)) = v ∧ 32 ∉ v.map (· + 32) ∧ (v.map (· + 32)).getLast? ≠ some 32 := by decide
theorem pair_of {a b : List UInt8} {c d : List UInt8 × Int} (h : c = d) : c.1 = d.1 ∧ c.2 = d.2 := ⟨by rw [h], by rw [h]⟩
/-- What a line says. -/
theorem line_cases {c : Cmd} (h : (line c).2 = 0) : c.verb ∈ verbs ∧
    ((c.verb = vMAIL ∧ c.arg = [] ∧ c.rc = Rc.zero ∧ ¬ (c.dm = [] ∧ c.lo ≠ []) ∧ Pt.right c.lo c.dm = 0 ∧ c.ml.right = 0 ∧ (line c).1 = vMAIL ++ 32 :: (kFrom ++ plain (Pt.text c.lo c.dm) c.ml.text.data.toList)) ∨
     (c.verb = vRCPT ∧ c.arg = [] ∧ c.ml = Ml.zero ∧ ¬ (c.dm = [] ∧ c.lo = []) ∧ Pt.right c.lo c.dm = 0 ∧ c.rc.right = 0 ∧ (line c).1 = vRCPT ++ 32 :: (kTo ++ plain (Pt.text c.lo c.dm) c.rc.text.data.toList)) ∨
     (c.verb ≠ vMAIL ∧ c.verb ≠ vRCPT ∧ c.lo = [] ∧ c.dm = [] ∧ c.ml = Ml.zero ∧ c.rc = Rc.zero ∧ parse (c.verb ++ (if c.arg = [] then [] else 32 :: c.arg)) = (c, 0) ∧ (line c).1 = c.verb ++ (if c.arg = [] then [] else 32 :: c.arg))) := by
  unfold line at h ⊢
  by_cases hv : c.verb ∈ verbs
  · refine ⟨hv, ?_⟩
    rw [if_neg (not_not_intro hv)] at h ⊢
    by_cases hm : c.verb = vMAIL
    · rw [if_pos hm] at h ⊢
      by_cases h1 : c.arg ≠ [] ∨ c.rc ≠ Rc.zero ∨ (c.dm = [] ∧ c.lo ≠ [])
      · rw [if_pos h1] at h; exact absurd (show (2 : Int) = 0 from h) (by decide)
      · rw [if_neg h1] at h ⊢
        by_cases h2 : Pt.right c.lo c.dm ≠ 0
        · rw [if_pos h2] at h; exact absurd h h2
        · rw [if_neg h2] at h ⊢
          by_cases h3 : c.ml.right ≠ 0
          · rw [if_pos h3] at h; exact absurd h h3
          · rw [if_neg h3] at h ⊢
            have k1 : c.arg = [] := Classical.byContradiction fun q => h1 (.inl q)
            have k2 : c.rc = Rc.zero := Classical.byContradiction fun q => h1 (.inr (.inl q))
            have k3 : c.ml.right = 0 := Classical.byContradiction h3
            refine .inl ⟨hm, k1, k2, fun q => h1 (.inr (.inr q)), Classical.byContradiction h2, k3, ?_⟩
            have := trim_plain (text_last c.lo c.dm) (mtext_last c.ml k3) (vMAIL ++ 32 :: kFrom)
            simp only [List.append_assoc, List.cons_append] at this ⊢
            exact this
    · rw [if_neg hm] at h ⊢
      by_cases hr : c.verb = vRCPT
      · rw [if_pos hr] at h ⊢
        by_cases h1 : c.arg ≠ [] ∨ c.ml ≠ Ml.zero ∨ (c.dm = [] ∧ c.lo = [])
        · rw [if_pos h1] at h; exact absurd (show (2 : Int) = 0 from h) (by decide)
        · rw [if_neg h1] at h ⊢
          by_cases h2 : Pt.right c.lo c.dm ≠ 0
          · rw [if_pos h2] at h; exact absurd h h2
          · rw [if_neg h2] at h ⊢
            by_cases h3 : c.rc.right ≠ 0
            · rw [if_pos h3] at h; exact absurd h h3
            · rw [if_neg h3] at h ⊢
              have k1 : c.arg = [] := Classical.byContradiction fun q => h1 (.inl q)
              have k2 : c.ml = Ml.zero := Classical.byContradiction fun q => h1 (.inr (.inl q))
              have k3 : c.rc.right = 0 := Classical.byContradiction h3
              refine .inr (.inl ⟨hr, k1, k2, fun q => h1 (.inr (.inr q)), Classical.byContradiction h2, k3, ?_⟩)
              have := trim_plain (text_last c.lo c.dm) (rtext_last c.rc k3) (vRCPT ++ 32 :: kTo)
              simp only [List.append_assoc, List.cons_append] at this ⊢
              exact this
      · rw [if_neg hr] at h ⊢
        by_cases h1 : c.lo ≠ [] ∨ c.dm ≠ [] ∨ c.ml ≠ Ml.zero ∨ c.rc ≠ Rc.zero ∨ parse (c.verb ++ (if c.arg = [] then [] else 32 :: c.arg)) ≠ (c, 0)
        · rw [if_pos h1] at h; exact absurd (show (2 : Int) = 0 from h) (by decide)
        · rw [if_neg h1]
          exact .inr (.inr ⟨hm, hr, Classical.byContradiction fun q => h1 (.inl q), Classical.byContradiction fun q => h1 (.inr (.inl q)), Classical.byContradiction fun q => h1 (.inr (.inr (.inl q))), Classical.byContradiction fun q => h1 (.inr (.inr (.inr (.inl q)))), Classical.byContradiction fun q => h1 (.inr (.inr (.inr (.inr q)))), rfl⟩)
  · rw [if_pos hv] at h; exact absurd (show (10 : Int) = 0 from h) (by decide)
theorem last_plain {p w : List UInt8} (hp : p.getLast? = some 62) (hw : w.getLast? ≠ some 32) (pre : List UInt8) : (pre ++ plain p w).getLast? ≠ some 32 := by
  rw [← trim_plain hp hw pre]
  exact trimR_last _
theorem run_trimmed {s : List UInt8} (h : s.getLast? ≠ some 32) : parse s = run s := parse_id h
/-- B: a line is parsed to its command. -/
theorem line_parse {c : Cmd} (h : (line c).2 = 0) : parse (line c).1 = (c, 0) := by
  obtain ⟨hv, h1 | h1 | h1⟩ := line_cases h
  · obtain ⟨k1, k2, k3, k4, k5, k6, k7⟩ := h1
    rw [k7]
    have hl := last_plain (text_last c.lo c.dm) (mtext_last c.ml k6) (vMAIL ++ 32 :: kFrom)
    rw [List.append_assoc, List.cons_append] at hl
    rw [run_trimmed hl]
    exact from_line c k1 k2 k3 k4 k5 k6 vMAIL (by decide) (by decide) kFrom (by decide) (by decide)
  · obtain ⟨k1, k2, k3, k4, k5, k6, k7⟩ := h1
    rw [k7]
    have hl := last_plain (text_last c.lo c.dm) (rtext_last c.rc k6) (vRCPT ++ 32 :: kTo)
    rw [List.append_assoc, List.cons_append] at hl
    rw [run_trimmed hl]
    exact to_line c k1 k2 k3 k4 k5 k6 vRCPT (by decide) (by decide) kTo (by decide) (by decide)
  · rw [h1.2.2.2.2.2.2.2]; exact h1.2.2.2.2.2.2.1
theorem run_inv {t : List UInt8} {c : Cmd} (h : run t = (c, 0)) : ∃ f, does (verb t) = some f ∧ f { Cmd.zero with verb := verb t } (Tok.cut 32 t).2.1 (Tok.cut 32 t).2.2 = (c, 0) := by
  unfold run at h
  cases hd : does (verb t) with
  | none => rw [hd] at h; simp only at h; exact absurd (show (10 : Int) = 0 from congrArg Prod.snd h) (by decide)
  | some f =>
    rw [hd] at h
    refine ⟨f, rfl, ?_⟩
    change (if (f { Cmd.zero with verb := verb t } (Tok.cut 32 t).2.1 (Tok.cut 32 t).2.2).2 ≠ 0 then (Cmd.zero, (f { Cmd.zero with verb := verb t } (Tok.cut 32 t).2.1 (Tok.cut 32 t).2.2).2) else ((f { Cmd.zero with verb := verb t } (Tok.cut 32 t).2.1 (Tok.cut 32 t).2.2).1, 0)) = (c, 0) at h
    by_cases h0 : (f { Cmd.zero with verb := verb t } (Tok.cut 32 t).2.1 (Tok.cut 32 t).2.2).2 ≠ 0
    · rw [if_pos h0] at h; exact absurd (congrArg Prod.snd h) h0
    · rw [if_neg h0] at h
      have e1 := congrArg Prod.fst h
      have e2 := Classical.byContradiction h0
      exact Prod.ext e1 e2
theorem wh_inv {rest word w lo dm : List UInt8} (h : wh rest word = ((lo, dm), w, 0)) : Pt.right lo dm = 0 := by
  unfold wh at h
  split at h
  · exact absurd (show (2 : Int) = 0 from congrArg (fun x => x.2.2) h) (by decide)
  · split at h
    · rename_i q; exact absurd (congrArg (fun x => x.2.2) h) q
    · rename_i q
      have he : (Pt.parse (rest.drop word.length)).2.2 = 0 := Classical.byContradiction q
      have hp : (Pt.parse (rest.drop word.length)).1 = (lo, dm) → Pt.right lo dm = 0 := fun k =>
        Pt.parse_right (s := rest.drop word.length) (r := (Pt.parse (rest.drop word.length)).2.1) (Prod.ext k (Prod.ext rfl he))
      split at h
      · exact hp (congrArg Prod.fst h)
      · exact hp (congrArg Prod.fst h)
      · exact absurd (show (2 : Int) = 0 from congrArg (fun x => x.2.2) h) (by decide)
theorem from_inv {c c' : Cmd} {rest : List UInt8} {has : Bool} (h : stFrom c rest has = (c', 0)) : ∃ lo dm m, c' = { c with lo := lo, dm := dm, ml := m } ∧ Pt.right lo dm = 0 ∧ ¬ (dm = [] ∧ lo ≠ []) ∧ m.right = 0 := by
  unfold stFrom at h
  split at h
  · rename_i q; exact absurd (congrArg Prod.snd h) q
  · rename_i q
    split at h
    · exact absurd (show (2 : Int) = 0 from congrArg Prod.snd h) (by decide)
    · rename_i q2
      have hm : (parseMail (tx (wh rest kFrom).2.1)).2 = 0 := congrArg Prod.snd h
      exact ⟨_, _, _, (congrArg Prod.fst h).symm, wh_inv (rest := rest) (word := kFrom) (w := (wh rest kFrom).2.1) (Prod.ext rfl (Prod.ext rfl (Classical.byContradiction q))), q2, Pm.parse_right _ hm⟩
theorem to_inv {c c' : Cmd} {rest : List UInt8} {has : Bool} (h : stTo c rest has = (c', 0)) : ∃ lo dm r, c' = { c with lo := lo, dm := dm, rc := r } ∧ Pt.right lo dm = 0 ∧ ¬ (dm = [] ∧ lo = []) ∧ r.right = 0 := by
  unfold stTo at h
  split at h
  · rename_i q; exact absurd (congrArg Prod.snd h) q
  · rename_i q
    split at h
    · exact absurd (show (2 : Int) = 0 from congrArg Prod.snd h) (by decide)
    · rename_i q2
      have hm : (parseRcpt (tx (wh rest kTo).2.1)).2 = 0 := congrArg Prod.snd h
      exact ⟨_, _, _, (congrArg Prod.fst h).symm, wh_inv (rest := rest) (word := kTo) (w := (wh rest kTo).2.1) (Prod.ext rfl (Prod.ext rfl (Classical.byContradiction q))), q2, Pm.rparse_right _ hm⟩
theorem cut_false (b : UInt8) : ∀ l : List UInt8, (Tok.cut b l).2.2 = false → (Tok.cut b l).2.1 = []
  | [], _ => rfl
  | x :: l, h => by
    unfold Tok.cut at h ⊢
    split at h
    · cases h
    · rename_i q
      rw [if_neg q]
      exact cut_false b l h
theorem does_inv {v : List UInt8} {f : Cmd → List UInt8 → Bool → Cmd × Int} (h : does v = some f) :
    ((v = vHELO ∨ v = vEHLO) ∧ f = stDom) ∨ (v = vMAIL ∧ f = stFrom) ∨ (v = vRCPT ∧ f = stTo) ∨ ((v = vDATA ∨ v = vRSET ∨ v = vQUIT) ∧ f = stNone) ∨ ((v = vNOOP ∨ v = vVRFY ∨ v = vHELP) ∧ f = stText) := by
  unfold does at h
  split at h
  · cases h; exact .inl ⟨by assumption, rfl⟩
  · split at h
    · cases h; exact .inr (.inl ⟨by assumption, rfl⟩)
    · split at h
      · cases h; exact .inr (.inr (.inl ⟨by assumption, rfl⟩))
      · split at h
        · cases h; exact .inr (.inr (.inr (.inl ⟨by assumption, rfl⟩)))
        · split at h
          · cases h; exact .inr (.inr (.inr (.inr ⟨by assumption, rfl⟩)))
          · cases h
theorem does_mem {v : List UInt8} {f : Cmd → List UInt8 → Bool → Cmd × Int} (h : does v = some f) : v ∈ verbs := by
  rcases does_inv h with ⟨rfl | rfl, _⟩ | ⟨rfl, _⟩ | ⟨rfl, _⟩ | ⟨rfl | rfl | rfl, _⟩ | ⟨rfl | rfl | rfl, _⟩ <;> decide
theorem does_none {v : List UInt8} : does v = none ↔ v ∉ verbs := by
  constructor
  · intro h q
    have := (verb_facts v q).2.2.2.1
    rw [h] at this
    cases this
  · intro h
    cases hd : does v with
    | none => rfl
    | some f => exact absurd (does_mem hd) h
/-- A verb of no path has the line of its argument. -/
theorem line_other {v a : List UInt8} (hv : v ∈ verbs) (hm : v ≠ vMAIL) (hr : v ≠ vRCPT) (h : parse (v ++ (if a = [] then [] else 32 :: a)) = ({ Cmd.zero with verb := v, arg := a }, 0)) :
    (line { Cmd.zero with verb := v, arg := a }).2 = 0 := by
  unfold line
  rw [if_neg (not_not_intro hv), if_neg hm, if_neg hr, if_neg]
  rintro (q | q | q | q | q)
  · exact q rfl
  · exact q rfl
  · exact q rfl
  · exact q rfl
  · exact q h
theorem last_cons {x : UInt8} {l : List UInt8} (h : l ≠ []) : (x :: l).getLast? = l.getLast? := by
  cases l with
  | nil => exact absurd rfl h
  | cons y r => rw [List.getLast?_cons_cons]
theorem last_arg {v a : List UInt8} (h : a ≠ []) : (v ++ 32 :: a).getLast? = a.getLast? := by
  rw [List.getLast?_append, last_cons h]
  cases hl : a.getLast? with
  | none => exact absurd (by simpa using hl) h
  | some z => rfl
theorem trimB_last {l : List UInt8} (h : Go.Lib.trimB l 32 = l) : l.getLast? ≠ some 32 := by
  intro q
  have h1 : (Go.Lib.trimRightB l 32).length < l.length := by
    have h2 : trimR l ≠ l := fun e => trimR_last l (by rw [e]; exact q)
    have h3 : (trimR l).length ≤ l.length := by
      unfold trimR Go.Lib.trimRightB
      rw [List.length_reverse]
      have := (List.dropWhile_sublist (l := l.reverse) (· == 32)).length_le
      simpa using this
    rcases Nat.lt_or_ge (trimR l).length l.length with k | k
    · exact k
    · exfalso
      apply h2
      have hs : (trimR l).reverse.length = l.reverse.length := by simp; omega
      have hsub : (trimR l).reverse.Sublist l.reverse := by
        unfold trimR Go.Lib.trimRightB
        rw [List.reverse_reverse]
        exact List.dropWhile_sublist _
      have := hsub.eq_of_length hs
      rw [← List.reverse_reverse (trimR l), this, List.reverse_reverse]
  have h2 : (Go.Lib.trimB l 32).length ≤ (Go.Lib.trimRightB l 32).length := by
    unfold Go.Lib.trimB Go.Lib.trimLeftB
    exact (List.dropWhile_sublist _).length_le
  rw [h] at h2
  omega
/-- C: what is parsed has a line. -/
theorem parse_line {s : List UInt8} {c : Cmd} (h : parse s = (c, 0)) : (line c).2 = 0 := by
  obtain ⟨f, hd, hf⟩ := run_inv h
  obtain ⟨v, hv⟩ : ∃ v, verb (trimR s) = v := ⟨_, rfl⟩
  rw [hv] at hd hf
  have hm := does_mem hd
  have hfac := verb_facts v hm
  obtain ⟨rest, hrest⟩ : ∃ r, (Tok.cut 32 (trimR s)).2.1 = r := ⟨_, rfl⟩
  obtain ⟨has, hhas⟩ : ∃ r, (Tok.cut 32 (trimR s)).2.2 = r := ⟨_, rfl⟩
  have hno : has = false → rest = [] := fun q => by rw [← hrest]; exact cut_false 32 _ (hhas.trans q)
  rw [hrest, hhas] at hf
  have hself : ∀ g, does v = some g → g { Cmd.zero with verb := v } [] false = ({ Cmd.zero with verb := v }, 0) → parse (v ++ (if ([] : List UInt8) = [] then [] else 32 :: [])) = ({ Cmd.zero with verb := v }, 0) := fun g hg hh => by
    rw [if_pos rfl, List.append_nil, run_trimmed hfac.2.2.2.2.1]
    exact run_no hfac.1 hfac.2.1 g hg _ hh
  rcases does_inv hd with ⟨hvv, rfl⟩ | ⟨rfl, rfl⟩ | ⟨rfl, rfl⟩ | ⟨hvv, rfl⟩ | ⟨hvv, rfl⟩
  · unfold stDom at hf
    split at hf
    · exact absurd (show (2 : Int) = 0 from congrArg Prod.snd hf) (by decide)
    · rename_i q
      have h2 : (Pt.domain rest).2 = 0 := Classical.byContradiction fun k => q (.inr k)
      obtain ⟨e1, e2, e3⟩ := Pt.domain_lower (l := rest) (d := (Pt.domain rest).1) (Prod.ext rfl h2)
      obtain ⟨d, hd0⟩ : ∃ d, (Pt.domain rest).1 = d := ⟨_, rfl⟩
      rw [hd0] at hf e1 e2 e3
      have hc : c = { Cmd.zero with verb := v, arg := d } := (congrArg Prod.fst hf).symm
      rw [hc]
      have hl : d.getLast? ≠ some 32 := fun k => by
        have := Pt.dom_bytes (Pt.domain_ok e1).2.1 32 (List.mem_of_getLast? k)
        exact absurd this (by decide)
      refine line_other hm (by rcases hvv with rfl | rfl <;> decide) (by rcases hvv with rfl | rfl <;> decide) ?_
      rw [if_neg e3, run_trimmed (by rw [last_arg e3]; exact hl)]
      refine run_at hfac.1 hfac.2.1 stDom hd _ ?_
      unfold stDom
      rw [e1, if_neg (by simp)]
  · obtain ⟨lo, dm, m, rfl, k1, k2, k3⟩ := from_inv hf
    unfold line
    rw [if_neg (not_not_intro hm), if_pos rfl, if_neg (by rintro (q | q | q); exact q rfl; exact q rfl; exact k2 q), if_neg (not_not_intro k1), if_neg (not_not_intro k3)]
  · obtain ⟨lo, dm, m, rfl, k1, k2, k3⟩ := to_inv hf
    unfold line
    rw [if_neg (not_not_intro hm), if_neg (show vRCPT ≠ vMAIL by decide), if_pos rfl, if_neg (by rintro (q | q | q); exact q rfl; exact q rfl; exact k2 q), if_neg (not_not_intro k1), if_neg (not_not_intro k3)]
  · unfold stNone at hf
    split at hf
    · exact absurd (show (2 : Int) = 0 from congrArg Prod.snd hf) (by decide)
    · have hc : c = { Cmd.zero with verb := v } := (congrArg Prod.fst hf).symm
      rw [hc]
      exact line_other (a := []) hm (by rcases hvv with rfl | rfl | rfl <;> decide) (by rcases hvv with rfl | rfl | rfl <;> decide) (hself _ hd (by unfold stNone; rw [if_neg (by decide)]))
  · unfold stText at hf
    split at hf
    · exact absurd (show (2 : Int) = 0 from congrArg Prod.snd hf) (by decide)
    · rename_i q
      have hc : c = { Cmd.zero with verb := v, arg := rest } := (congrArg Prod.fst hf).symm
      rw [hc]
      have n1 : v ≠ vMAIL := by rcases hvv with rfl | rfl | rfl <;> decide
      have n2 : v ≠ vRCPT := by rcases hvv with rfl | rfl | rfl <;> decide
      by_cases h0 : rest = []
      · subst h0
        have hh : has = false := by
          cases has with
          | false => rfl
          | true => exact absurd (.inl ⟨rfl, .inl rfl⟩) q
        subst hh
        exact line_other (a := []) hm n1 n2 (hself _ hd (by
          unfold stText
          rw [if_neg q]
          rfl))
      · have hh : has = true := by
          cases has with
          | true => rfl
          | false => exact absurd (hno rfl) h0
        subst hh
        have hs : shown rest = true := by
          cases k : shown rest with
          | true => rfl
          | false => exact absurd (.inl ⟨rfl, .inr k⟩) q
        have hl : rest.getLast? ≠ some 32 := by
          unfold shown at hs
          rw [Bool.and_eq_true] at hs
          exact trimB_last (by simpa using hs.2)
        refine line_other hm n1 n2 ?_
        rw [if_neg h0, run_trimmed (by rw [last_arg h0]; exact hl)]
        refine run_at hfac.1 hfac.2.1 stText hd _ ?_
        unfold stText
        rw [if_neg q]
end Cm
end Go.Proofs.YtllhbcpbihhdnaaGreatDoor
end
section
set_option linter.unusedVariables false
set_option linter.unusedSimpArgs false
namespace Go.Proofs.YtllhbcpbihhdnaaGreatDoor
open Go.RowKit Go.Shelf
set_option maxRecDepth 100000
theorem verbs_any (w : World) : Calls Tryz.prog 16 #[] w fun e w' => e = .returned (.slice (some ⟨w.heap.size, 0, none⟩) 10 10) ∧ w' = w.alloc (.cells #[.string ⟨#[72, 69, 76, 79]⟩, .string ⟨#[69, 72, 76, 79]⟩, .string ⟨#[77, 65, 73, 76]⟩, .string ⟨#[82, 67, 80, 84]⟩, .string ⟨#[68, 65, 84, 65]⟩, .string ⟨#[82, 83, 69, 84]⟩, .string ⟨#[81, 85, 73, 84]⟩, .string ⟨#[78, 79, 79, 80]⟩, .string ⟨#[86, 82, 70, 89]⟩, .string ⟨#[72, 69, 76, 80]⟩] 9) := by
  go_enter Tryz.func16, Tryz.ntmps16
  go_wp2_with ((with_reducible refine at_dst (N := 1) rfl ?_); refine strs_lit (by kernel_rfl) 10 _ (by rfl) [⟨#[72, 69, 76, 79]⟩, ⟨#[69, 72, 76, 79]⟩, ⟨#[77, 65, 73, 76]⟩, ⟨#[82, 67, 80, 84]⟩, ⟨#[68, 65, 84, 65]⟩, ⟨#[82, 83, 69, 84]⟩, ⟨#[81, 85, 73, 84]⟩, ⟨#[78, 79, 79, 80]⟩, ⟨#[86, 82, 70, 89]⟩, ⟨#[72, 69, 76, 80]⟩] rfl (by decide) (by decide) (by rfl) #[.string ⟨#[72, 69, 76, 79]⟩, .string ⟨#[69, 72, 76, 79]⟩, .string ⟨#[77, 65, 73, 76]⟩, .string ⟨#[82, 67, 80, 84]⟩, .string ⟨#[68, 65, 84, 65]⟩, .string ⟨#[82, 83, 69, 84]⟩, .string ⟨#[81, 85, 73, 84]⟩, .string ⟨#[78, 79, 79, 80]⟩, .string ⟨#[86, 82, 70, 89]⟩, .string ⟨#[72, 69, 76, 80]⟩] (by rfl) _ rfl ?_)
  go_ret
  exact ⟨rfl, rfl⟩
theorem verb_any (s : ByteArray) (hs : s.size ≤ 100000) (w : World) (hl : Lv w) : Calls Tryz.prog 11 #[.string s] w fun e w' => e = .returned (.string (Cm.tx (Cm.verb s.data.toList))) ∧ Below w.heap.size w w' := by
  have hcq := Tok.cut_eq 32 s.data.toList
  have hcl := cut_len 32 s.data.toList
  have hsl : s.data.toList.length = s.size := by simp
  have hcu := cut_any s ⟨#[32]⟩ w hl (by omega)
  change Calls _ _ _ w (fun e w' => e = .returned (.tuple #[.string ⟨(Lib.cut s.data.toList [32]).1.toArray⟩, .string ⟨(Lib.cut s.data.toList [32]).2.1.toArray⟩, .bool (Lib.cut s.data.toList [32]).2.2]) ∧ _) at hcu
  rw [hcq] at hcu
  have hup := fun W => command_upper ⟨(Tok.cut 32 s.data.toList).1.toArray⟩ W (by rw [ba_size]; omega)
  rw [ba_of] at hup
  have HV : Aside ((⟨(Txt.upper (Tok.cut 32 s.data.toList).1).toArray⟩ : ByteArray) = Cm.tx (Cm.verb s.data.toList)) := ⟨rfl⟩
  generalize (⟨(Txt.upper (Tok.cut 32 s.data.toList).1).toArray⟩ : ByteArray) = vv at hup HV
  generalize (⟨(Tok.cut 32 s.data.toList).1.toArray⟩ : ByteArray) = aa at hup hcu
  generalize (⟨(Tok.cut 32 s.data.toList).2.1.toArray⟩ : ByteArray) = bb at hcu
  generalize (Tok.cut 32 s.data.toList).2.2 = ok at hcu
  clear hcq hcl hsl hl
  go_enter Tryz.func11, Tryz.ntmps11
  go_wp2_with (first | (go_at_call 24; (with_reducible refine hcu.mono ?_); rintro e w1 ⟨rfl, hb1⟩; have L1 := Aside.mk hb1; clear hb1) | (go_at_call 29; (with_reducible refine (hup _).mono ?_); rintro e w2 ⟨rfl, hb2⟩; have L2 := Aside.mk (L1.out.trans (hb2.mono L1.out.size)); clear hb2))
  go_ret
  exact ⟨by rw [← HV.out]; rfl, L2.out⟩
set_option maxHeartbeats 2000000 in
theorem shown_any (s : ByteArray) (hs : s.size ≤ 100000) (w : World) : Calls Tryz.prog 64 #[.string s] w fun e w' => e = .returned (.bool (Cm.shown s.data.toList)) ∧ Below w.heap.size w w' := by
  have kb := fun W => Lib.run_convert_string_bytes (P := Tryz.prog) W 9 40 5 s Tryz.underlying9 Tryz.underlying40 Tryz.underlying5
  have htr := fun W => Tryz.strings_Trim_one s 32 (by decide) W (by omega)
  have HE : Aside (Cm.shown s.data.toList = (Pt.shown s.data.toList && ((⟨(Lib.trimB s.data.toList 32).toArray⟩ : ByteArray).toList == s.toList))) := ⟨by rw [Lib.toList_data, Lib.toList_data, ba_of]; rfl⟩
  obtain ⟨tt, htt⟩ : ∃ t, (⟨(Lib.trimB s.data.toList 32).toArray⟩ : ByteArray) = t := ⟨_, rfl⟩
  rw [htt] at htr HE
  clear htt
  obtain ⟨H, hH⟩ : ∃ H, w.heap.size = H := ⟨_, rfl⟩
  rw [hH]
  go_enter Tryz.func64, Tryz.ntmps64
  go_wp2
  have hby : ∀ j, j < s.size → (Lib.bytesWorld w 5 s).cell? ⟨w.heap.size, j, none⟩ = some (.int .u8 ((s.data.toList.getD j 0).toNat : Int)) := fun j hj => Lib.bytesWorld_cell w 5 s j hj
  rw [hH] at hby
  have HBy := Aside.mk hby
  have L2 : Aside (Below H w (Lib.bytesWorld w 5 s)) := ⟨((Chg.refl NoK w).bytes 5 s).below (Below.refl _ _) (fun k q => q.elim) (by omega)⟩
  clear hby
  obtain ⟨W1, hW1⟩ : ∃ W1, Lib.bytesWorld w 5 s = W1 := ⟨_, rfl⟩
  rw [hW1] at HBy L2 ⊢
  clear hW1
  go_loopw [8] (fun i wr => wr = W1 ∧ ∃ k : Nat, k ≤ s.size ∧ i = .int .i64 k ∧ Pt.shown (s.data.toList.take k) = true) (fun i _ => s.size - (intOf i).toNat)
  case atStart => exact ⟨rfl, 0, by omega, rfl, rfl⟩
  case round =>
    obtain ⟨rfl, k, hk, rfl, hno⟩ := hrel
    have HA := Aside.mk hno
    clear hno
    by_cases hlt : k < s.size
    · obtain ⟨ch, hch⟩ : ∃ c, s.data.toList.getD k 0 = c := ⟨_, rfl⟩
      have HT := Aside.mk (take_shown s k hlt ch hch)
      have zc := HBy.out k hlt
      rw [hch] at zc
      have HM := Aside.mk (mem_getD s k hlt ch hch)
      clear hch
      have hcr := ch.toNat_lt
      by_cases e1 : ch.toNat < 32
      · have d1 : decide ((ch.toNat : Int) < 32) = true := decide_eq_true (by omega)
        have HF := Aside.mk (shown_not HM.out (by omega))
        clear e1
        go_wp2
        go_ret
        exact ⟨by rw [HE.out, HF.out]; rfl, L2.out⟩
      · have d1 : decide ((ch.toNat : Int) < 32) = false := decide_eq_false (by omega)
        by_cases e2 : 126 < ch.toNat
        · have d2 : decide ((126 : Int) < (ch.toNat : Int)) = true := decide_eq_true (by omega)
          have HF := Aside.mk (shown_not HM.out (by omega))
          clear e1 e2
          go_wp2
          go_ret
          exact ⟨by rw [HE.out, HF.out]; rfl, L2.out⟩
        · have d2 : decide ((126 : Int) < (ch.toNat : Int)) = false := decide_eq_false (by omega)
          have HN : Aside (Pt.shown (s.data.toList.take (k + 1)) = true) := ⟨by rw [HT.out, HA.out, decide_eq_true (show 32 ≤ ch.toNat by omega), decide_eq_true (show ch.toNat ≤ 126 by omega)]; rfl⟩
          clear e1 e2
          go_wp2
          go_roundw
          case rel => exact ⟨by first | trivial | rfl, k + 1, by omega, by go_num, HN.out⟩
          case measure => first | (simp [intOf]; done) | (simp [intOf]; omega)
    · have hke : k = s.size := by omega
      subst hke
      have hall := HA.out
      rw [List.take_of_length_le (show s.data.toList.length ≤ s.size by simp)] at hall
      have HF := Aside.mk hall
      obtain ⟨eb, heb⟩ : ∃ b, (tt.toList == s.toList) = b := ⟨_, rfl⟩
      have HB := Aside.mk heb
      clear hall
      have htr2 : ∀ W, Calls Tryz.prog 98 #[.string s, .string ⟨#[32]⟩] W fun e w' => e = .returned (.string tt) ∧ Below W.heap.size W w' := fun W => (htr W).mono fun e w' ⟨k1, k2⟩ => ⟨k1, by rcases k2 with k2 | k2; exact k2 ▸ Below.refl _ _; exact k2 ▸ pw_below_drewN (Below.refl _ _) 1⟩
      go_wp2_with (go_at_call 98; (with_reducible refine (htr2 _).mono ?_); rintro e w2 ⟨rfl, hb2⟩; have L3 := Aside.mk (L2.out.trans (hb2.mono (by have := L2.out.size; omega))); clear hb2)
      all_goals
        go_ret
        refine ⟨?_, L3.out⟩
        rw [HE.out, HF.out, HB.out]
        first | rfl | (simp_all)
theorem cmd_arg (c : Cm.Cmd) (a : List UInt8) : c.cells.setIfInBounds 1 (.string (Cm.tx a)) = ({ c with arg := a } : Cm.Cmd).cells := by rfl
theorem domain_m (r : Nat) (c : Cm.Cmd) (rest : ByteArray) (has : Bool) (w : World) (hb : Blk w r c.cells 31) : Calls Tryz.prog 19 #[.pointer (some ⟨r, 0, none⟩), .string rest, .bool has] w fun e w' => e = .returned (.int .i64 (Cm.stDom c rest.data.toList has).2) ∧ Blk w' r (Cm.stDom c rest.data.toList has).1.cells 31 ∧ Chg (fun k => k = r) w w' := by
  have hdm := fun W => domain_any rest W
  have HB := Aside.mk hb
  have hst : Cm.stDom c rest.data.toList has = if has = false ∨ (Pt.domain rest.data.toList).2 ≠ 0 then (c, 2) else ({ c with arg := (Pt.domain rest.data.toList).1 }, 0) := rfl
  obtain ⟨p, hp⟩ : ∃ p, Pt.domain rest.data.toList = p := ⟨_, rfl⟩
  obtain ⟨d, e⟩ := p
  rw [hp] at hdm hst
  change ∀ W, Calls _ _ _ W (fun e' w' => e' = .returned (.tuple #[.string (Cm.tx d), .int .i64 e]) ∧ _) at hdm
  rw [hst]
  clear hb hst hp
  cases has with
  | false =>
    rw [if_pos (.inl rfl)]
    generalize Cm.tx d = dt at hdm
    go_enter Tryz.func19, Tryz.ntmps19
    go_wp2_with (go_at_call 37; (with_reducible refine (hdm _).mono ?_); rintro e w1 ⟨rfl, hb1⟩; have L1 := Aside.mk hb1; clear hb1)
    go_ret
    exact ⟨rfl, HB.out.below L1.out, Chg.ofBelow L1.out _⟩
  | true =>
    by_cases h0 : e = 0
    · subst h0
      rw [if_neg (by rintro (q | q); cases q; exact q rfl)]
      obtain ⟨dt, hdt⟩ : ∃ t, Cm.tx d = t := ⟨_, rfl⟩
      rw [hdt] at hdm
      have hce := cmd_arg c d
      rw [hdt] at hce
      have HC := Aside.mk hce
      clear hce hdt
      go_enter Tryz.func19, Tryz.ntmps19
      go_wp2_with (go_at_call 37; (with_reducible refine (hdm _).mono ?_); rintro e w1 ⟨rfl, hb1⟩; have L1 := Aside.mk hb1; have B1 := Aside.mk (Blk.below HB.out hb1); clear hb1; have z1 := Blk.cell B1.out 1 (.string (Cm.tx c.arg)) rfl; have y1 := Blk.free B1.out 1)
      go_ret
      exact ⟨rfl, by have := Blk.set B1.out 1 (.string dt); rw [HC.out] at this; exact this, (Chg.ofBelow L1.out (fun k => k = r)).setCell (fun _ => rfl) _⟩
    · rw [if_pos (.inr h0)]
      have e1 : (e != 0) = true := by simpa using h0
      generalize Cm.tx d = dt at hdm
      clear h0
      go_enter Tryz.func19, Tryz.ntmps19
      go_wp2_with (go_at_call 37; (with_reducible refine (hdm _).mono ?_); rintro e w1 ⟨rfl, hb1⟩; have L1 := Aside.mk hb1; clear hb1)
      go_ret
      exact ⟨rfl, HB.out.below L1.out, Chg.ofBelow L1.out _⟩
theorem none_m (r : Nat) (c : Cm.Cmd) (rest : ByteArray) (has : Bool) (w : World) (hb : Blk w r c.cells 31) : Calls Tryz.prog 22 #[.pointer (some ⟨r, 0, none⟩), .string rest, .bool has] w fun e w' => e = .returned (.int .i64 (Cm.stNone c rest.data.toList has).2) ∧ Blk w' r (Cm.stNone c rest.data.toList has).1.cells 31 ∧ Chg (fun k => k = r) w w' := by
  have HB := Aside.mk hb
  clear hb
  cases has with
  | false =>
    go_enter Tryz.func22, Tryz.ntmps22
    go_wp2
    go_ret
    exact ⟨rfl, HB.out, Chg.refl _ _⟩
  | true =>
    go_enter Tryz.func22, Tryz.ntmps22
    go_wp2
    go_ret
    exact ⟨rfl, HB.out, Chg.refl _ _⟩
end Go.Proofs.YtllhbcpbihhdnaaGreatDoor
end
section
set_option linter.unusedVariables false
set_option linter.unusedSimpArgs false
namespace Go.Proofs.YtllhbcpbihhdnaaGreatDoor
open Go.RowKit Go.Shelf
set_option maxRecDepth 100000
theorem cmd_argb (c : Cm.Cmd) (a : ByteArray) : c.cells.setIfInBounds 1 (.string a) = ({ c with arg := a.data.toList } : Cm.Cmd).cells := by
  rw [show (Value.string a) = .string (Cm.tx a.data.toList) by rw [Cm.tx_of]]
  rfl
def stT (r : Nat) (c : Cm.Cmd) (rest : ByteArray) (has : Bool) (w : World) (e : Ending) (w' : World) : Prop := e = .returned (.int .i64 (Cm.stText c rest.data.toList has).2) ∧ Blk w' r (Cm.stText c rest.data.toList has).1.cells 31 ∧ Chg (fun k => k = r) w w'
theorem text_a (r : Nat) (c : Cm.Cmd) (rest : ByteArray) (hz : rest.size ≤ 100000) (he : rest.toList.isEmpty = true) (w : World) (hb : Blk w r c.cells 31) : Calls Tryz.prog 23 #[.pointer (some ⟨r, 0, none⟩), .string rest, .bool true] w (stT r c rest true w) := by
  have he2 : rest.data.toList = [] := by rw [Lib.toList_data, List.isEmpty_iff] at he; exact he
  have hst : Cm.stText c rest.data.toList true = (c, 2) := by unfold Cm.stText; rw [if_pos (.inl ⟨rfl, .inl he2⟩)]
  obtain ⟨B1, L1⟩ : Aside (Blk w r c.cells 31) ∧ Aside (Below w.heap.size w w) := ⟨⟨hb⟩, ⟨Below.refl _ _⟩⟩
  have z0 := hb.cell 0 (.string (Cm.tx c.verb)) rfl
  have z1 := hb.cell 1 (.string (Cm.tx c.arg)) rfl
  have y1 := hb.free 1
  have HA := Aside.mk (cmd_argb c rest)
  clear hb
  unfold stT
  rw [hst]
  clear hst
  go_enter Tryz.func23, Tryz.ntmps23
  go_wp2
  go_ret
  exact ⟨rfl, B1.out, Chg.ofBelow L1.out _⟩
theorem text_b (r : Nat) (c : Cm.Cmd) (rest : ByteArray) (hz : rest.size ≤ 100000) (he : rest.toList.isEmpty = false) (hs : Cm.shown rest.data.toList = false) (w : World) (hb : Blk w r c.cells 31) : Calls Tryz.prog 23 #[.pointer (some ⟨r, 0, none⟩), .string rest, .bool true] w (stT r c rest true w) := by
  have hst : Cm.stText c rest.data.toList true = (c, 2) := by unfold Cm.stText; rw [if_pos (.inl ⟨rfl, .inr hs⟩)]
  have hsh := fun W => shown_any rest hz W
  rw [hs] at hsh
  obtain ⟨B1, L1⟩ : Aside (Blk w r c.cells 31) ∧ Aside (Below w.heap.size w w) := ⟨⟨hb⟩, ⟨Below.refl _ _⟩⟩
  have z0 := hb.cell 0 (.string (Cm.tx c.verb)) rfl
  have z1 := hb.cell 1 (.string (Cm.tx c.arg)) rfl
  have y1 := hb.free 1
  have HA := Aside.mk (cmd_argb c rest)
  clear hb
  unfold stT
  rw [hst]
  clear hst
  go_enter Tryz.func23, Tryz.ntmps23
  go_wp2_with (first | (go_at_call 64; (with_reducible refine (hsh _).mono ?_); rintro e w1 ⟨rfl, hb1⟩; replace L1 := Aside.mk (L1.out.trans (hb1.mono L1.out.size)); replace B1 := Aside.mk (Blk.below B1.out hb1); clear hb1 z0 z1 y1; have z0 := Blk.cell B1.out 0 (.string (Cm.tx c.verb)) rfl; have z1 := Blk.cell B1.out 1 (.string (Cm.tx c.arg)) rfl; have y1 := Blk.free B1.out 1))
  go_ret
  exact ⟨rfl, B1.out, Chg.ofBelow L1.out _⟩
theorem text_c (r : Nat) (c : Cm.Cmd) (rest : ByteArray) (hz : rest.size ≤ 100000) (he : rest.toList.isEmpty = false) (hs : Cm.shown rest.data.toList = true) (w : World) (hb : Blk w r c.cells 31) : Calls Tryz.prog 23 #[.pointer (some ⟨r, 0, none⟩), .string rest, .bool true] w (stT r c rest true w) := by
  have he2 : rest.data.toList ≠ [] := by rw [Lib.toList_data] at he; intro q; rw [q] at he; cases he
  have hst : Cm.stText c rest.data.toList true = ({ c with arg := rest.data.toList }, 0) := by unfold Cm.stText; rw [if_neg (by rintro (⟨_, q | q⟩ | ⟨q, _⟩); exact he2 q; rw [hs] at q; cases q; cases q)]
  have hsh := fun W => shown_any rest hz W
  rw [hs] at hsh
  obtain ⟨B1, L1⟩ : Aside (Blk w r c.cells 31) ∧ Aside (Below w.heap.size w w) := ⟨⟨hb⟩, ⟨Below.refl _ _⟩⟩
  have z0 := hb.cell 0 (.string (Cm.tx c.verb)) rfl
  have z1 := hb.cell 1 (.string (Cm.tx c.arg)) rfl
  have y1 := hb.free 1
  have HA := Aside.mk (cmd_argb c rest)
  clear hb
  unfold stT
  rw [hst]
  clear hst
  go_enter Tryz.func23, Tryz.ntmps23
  go_wp2_with (first | (go_at_call 64; (with_reducible refine (hsh _).mono ?_); rintro e w1 ⟨rfl, hb1⟩; replace L1 := Aside.mk (L1.out.trans (hb1.mono L1.out.size)); replace B1 := Aside.mk (Blk.below B1.out hb1); clear hb1 z0 z1 y1; have z0 := Blk.cell B1.out 0 (.string (Cm.tx c.verb)) rfl; have z1 := Blk.cell B1.out 1 (.string (Cm.tx c.arg)) rfl; have y1 := Blk.free B1.out 1))
  go_ret
  exact ⟨rfl, by have := Blk.set B1.out 1 (.string rest); rw [HA.out] at this; exact this, (Chg.ofBelow L1.out (fun k => k = r)).setCell (fun _ => rfl) _⟩
theorem text_d (r : Nat) (c : Cm.Cmd) (rest : ByteArray) (hz : rest.size ≤ 100000) (hv : ((Cm.tx c.verb).toList == [86, 82, 70, 89]) = true) (w : World) (hb : Blk w r c.cells 31) : Calls Tryz.prog 23 #[.pointer (some ⟨r, 0, none⟩), .string rest, .bool false] w (stT r c rest false w) := by
  have hv2 : c.verb = Cm.vVRFY := by rw [Lib.toList_data, Cm.tx_data] at hv; show c.verb = [86, 82, 70, 89]; simpa using hv
  have hst : Cm.stText c rest.data.toList false = (c, 2) := by unfold Cm.stText; rw [if_pos (.inr ⟨rfl, hv2⟩)]
  clear hv2
  obtain ⟨B1, L1⟩ : Aside (Blk w r c.cells 31) ∧ Aside (Below w.heap.size w w) := ⟨⟨hb⟩, ⟨Below.refl _ _⟩⟩
  have z0 := hb.cell 0 (.string (Cm.tx c.verb)) rfl
  have z1 := hb.cell 1 (.string (Cm.tx c.arg)) rfl
  have y1 := hb.free 1
  have HA := Aside.mk (cmd_argb c rest)
  clear hb
  unfold stT
  rw [hst]
  clear hst
  go_enter Tryz.func23, Tryz.ntmps23
  go_wp2
  go_ret
  exact ⟨rfl, B1.out, Chg.ofBelow L1.out _⟩
theorem text_e (r : Nat) (c : Cm.Cmd) (rest : ByteArray) (hz : rest.size ≤ 100000) (hv : ((Cm.tx c.verb).toList == [86, 82, 70, 89]) = false) (w : World) (hb : Blk w r c.cells 31) : Calls Tryz.prog 23 #[.pointer (some ⟨r, 0, none⟩), .string rest, .bool false] w (stT r c rest false w) := by
  have hv2 : c.verb ≠ Cm.vVRFY := by rw [Lib.toList_data, Cm.tx_data] at hv; show ¬ c.verb = [86, 82, 70, 89]; simpa using hv
  have hst : Cm.stText c rest.data.toList false = ({ c with arg := rest.data.toList }, 0) := by unfold Cm.stText; rw [if_neg (by rintro (⟨q, _⟩ | ⟨_, q⟩); cases q; exact hv2 q)]
  clear hv2
  obtain ⟨B1, L1⟩ : Aside (Blk w r c.cells 31) ∧ Aside (Below w.heap.size w w) := ⟨⟨hb⟩, ⟨Below.refl _ _⟩⟩
  have z0 := hb.cell 0 (.string (Cm.tx c.verb)) rfl
  have z1 := hb.cell 1 (.string (Cm.tx c.arg)) rfl
  have y1 := hb.free 1
  have HA := Aside.mk (cmd_argb c rest)
  clear hb
  unfold stT
  rw [hst]
  clear hst
  go_enter Tryz.func23, Tryz.ntmps23
  go_wp2
  go_ret
  exact ⟨rfl, by have := Blk.set B1.out 1 (.string rest); rw [HA.out] at this; exact this, (Chg.ofBelow L1.out (fun k => k = r)).setCell (fun _ => rfl) _⟩
theorem text_m (r : Nat) (c : Cm.Cmd) (rest : ByteArray) (hz : rest.size ≤ 100000) (has : Bool) (w : World) (hb : Blk w r c.cells 31) : Calls Tryz.prog 23 #[.pointer (some ⟨r, 0, none⟩), .string rest, .bool has] w fun e w' => e = .returned (.int .i64 (Cm.stText c rest.data.toList has).2) ∧ Blk w' r (Cm.stText c rest.data.toList has).1.cells 31 ∧ Chg (fun k => k = r) w w' := by
  cases has with
  | true =>
    cases he : rest.toList.isEmpty with
    | true => exact text_a r c rest hz he w hb
    | false =>
      cases hs : Cm.shown rest.data.toList with
      | false => exact text_b r c rest hz he hs w hb
      | true => exact text_c r c rest hz he hs w hb
  | false =>
    cases hv : ((Cm.tx c.verb).toList == [86, 82, 70, 89]) with
    | true => exact text_d r c rest hz hv w hb
    | false => exact text_e r c rest hz hv w hb
end Go.Proofs.YtllhbcpbihhdnaaGreatDoor
end
section
set_option linter.unusedVariables false
set_option linter.unusedSimpArgs false
namespace Go.Proofs.YtllhbcpbihhdnaaGreatDoor
open Go.RowKit Go.Shelf
set_option maxRecDepth 100000
theorem cmd_path (c : Cm.Cmd) (a b : ByteArray) : (c.cells.setIfInBounds 2 (.string a)).setIfInBounds 3 (.string b) = ({ c with lo := a.data.toList, dm := b.data.toList } : Cm.Cmd).cells := by
  rw [show (Value.string a) = .string (Cm.tx a.data.toList) by rw [Cm.tx_of], show (Value.string b) = .string (Cm.tx b.data.toList) by rw [Cm.tx_of]]
  rfl
set_option maxHeartbeats 4000000 in
theorem where_a (r : Nat) (c : Cm.Cmd) (rest word : ByteArray) (hz : rest.size ≤ 100000) (hwz : word.size ≤ 10) (h0 : rest.size < word.size) (w : World) (hl : Lv w) (hb : Blk w r c.cells 31) : Calls Tryz.prog 63 #[.pointer (some ⟨r, 0, none⟩), .string rest, .string word] w fun e w' => e = .returned (.tuple #[.string ⟨#[]⟩, .int .i64 2]) ∧ Blk w' r c.cells 31 ∧ Chg (fun k => k = r) w w' := by
  have d0 : decide (rest.size < word.size) = true := decide_eq_true h0
  clear h0
  have B1 := Aside.mk hb
  have L1 : Aside (Below w.heap.size w w) := ⟨Below.refl _ _⟩
  have HLv : Aside (∀ W, Below w.heap.size w W → Lv W) := ⟨fun W h => hl.next h⟩
  clear hb hl hz
  go_enter Tryz.func63, Tryz.ntmps63
  go_wp2
  go_ret2
  exact ⟨rfl, B1.out, Chg.ofBelow L1.out _⟩
set_option maxHeartbeats 4000000 in
theorem where_b (r : Nat) (c : Cm.Cmd) (rest word : ByteArray) (hz : rest.size ≤ 100000) (hwz : word.size ≤ 10) (h0 : word.size ≤ rest.size) (a1 up : ByteArray) (x1 : rest.extract 0 word.size = a1) (hu : (⟨(Txt.upper a1.data.toList).toArray⟩ : ByteArray) = up) (e1 : (up.toList != word.toList) = true) (e2 : (up.toList == word.toList) = false) (w : World) (hl : Lv w) (hb : Blk w r c.cells 31) : Calls Tryz.prog 63 #[.pointer (some ⟨r, 0, none⟩), .string rest, .string word] w fun e w' => e = .returned (.tuple #[.string ⟨#[]⟩, .int .i64 2]) ∧ Blk w' r c.cells 31 ∧ Chg (fun k => k = r) w w' := by
  have d0 : decide ((rest.size : Int) < (word.size : Int)) = false := decide_eq_false (by omega)
  have d1 : (word.size : Int) ≤ (rest.size : Int) := by omega
  have d2 : (0 : Int) ≤ (word.size : Int) := by omega
  have ha1 : a1.size ≤ 100000 := by rw [← x1]; simp; omega
  have hup := fun W => command_upper a1 W (by omega)
  rw [hu] at hup
  clear ha1 hu h0
  have B1 := Aside.mk hb
  have L1 : Aside (Below w.heap.size w w) := ⟨Below.refl _ _⟩
  have HLv : Aside (∀ W, Below w.heap.size w W → Lv W) := ⟨fun W h => hl.next h⟩
  clear hb hl hz
  go_enter Tryz.func63, Tryz.ntmps63
  go_wp2_with (first | (go_at_call 29; (with_reducible refine (hup _).mono ?_); rintro e w1 ⟨rfl, hb1⟩; replace L1 := Aside.mk (L1.out.trans (hb1.mono L1.out.size)); replace B1 := Aside.mk (Blk.below B1.out hb1); clear hb1))
  go_ret2
  exact ⟨rfl, B1.out, Chg.ofBelow L1.out _⟩
set_option maxHeartbeats 4000000 in
theorem where_c (r : Nat) (c : Cm.Cmd) (rest word : ByteArray) (hz : rest.size ≤ 100000) (hwz : word.size ≤ 10) (h0 : word.size ≤ rest.size) (a1 up : ByteArray) (x1 : rest.extract 0 word.size = a1) (hu : (⟨(Txt.upper a1.data.toList).toArray⟩ : ByteArray) = up) (e1 : (up.toList != word.toList) = false) (e2 : (up.toList == word.toList) = true) (a2 : ByteArray) (x2 : rest.extract word.size rest.size = a2) (lo dm rb : ByteArray) (ee : Int) (hp : ptVal (Pt.parse a2.data.toList) = .tuple #[.agg #[.string lo, .string dm], .string rb, .int .i64 ee]) (g1 : (ee != 0) = true) (g2 : (ee == 0) = false) (w : World) (hl : Lv w) (hb : Blk w r c.cells 31) : Calls Tryz.prog 63 #[.pointer (some ⟨r, 0, none⟩), .string rest, .string word] w fun e w' => e = .returned (.tuple #[.string ⟨#[]⟩, .int .i64 ee]) ∧ Blk w' r c.cells 31 ∧ Chg (fun k => k = r) w w' := by
  have d0 : decide ((rest.size : Int) < (word.size : Int)) = false := decide_eq_false (by omega)
  have d1 : (word.size : Int) ≤ (rest.size : Int) := by omega
  have d2 : (0 : Int) ≤ (word.size : Int) := by omega
  have ha1 : a1.size ≤ 100000 := by rw [← x1]; simp; omega
  have hup := fun W => command_upper a1 W (by omega)
  rw [hu] at hup
  have ha2 : a2.size ≤ 100000 := by rw [← x2]; simp; omega
  have hpp := fun W (hW : Lv W) => pathParse_any a2 (by omega) W hW
  rw [hp] at hpp
  clear ha1 ha2 hu h0 hp
  have B1 := Aside.mk hb
  have L1 : Aside (Below w.heap.size w w) := ⟨Below.refl _ _⟩
  have HLv : Aside (∀ W, Below w.heap.size w W → Lv W) := ⟨fun W h => hl.next h⟩
  clear hb hl hz
  go_enter Tryz.func63, Tryz.ntmps63
  go_wp2_with (first | (go_at_call 29; (with_reducible refine (hup _).mono ?_); rintro e w1 ⟨rfl, hb1⟩; replace L1 := Aside.mk (L1.out.trans (hb1.mono L1.out.size)); replace B1 := Aside.mk (Blk.below B1.out hb1); clear hb1) | (go_at_call 12; (with_reducible refine (hpp _ (HLv.out _ L1.out)).mono ?_); rintro e w1 ⟨rfl, hb1⟩; replace L1 := Aside.mk (L1.out.trans (hb1.mono L1.out.size)); replace B1 := Aside.mk (Blk.below B1.out hb1); clear hb1) | ((with_reducible refine at_store (p := 8) rfl ?_); refine store_new rfl 23 _ _ #[.string ⟨#[]⟩, .string ⟨#[]⟩] #[.string lo, .string dm] (by rfl) _ rfl (by rfl) (by rfl) (by kernel_rfl) rfl (by simp [Value.oneCell']) ?_; have B2 := Aside.mk (Blk.old B1.out (.cells #[.string lo, .string dm] 23)); have L2 := Aside.mk (Below.alloc L1.out L1.out.size (.cells #[.string lo, .string dm] 23)); have z2 := Blk.cell B2.out 2 (.string (Cm.tx c.lo)) rfl; have y2 := Blk.free B2.out 2; have z3 := Blk.cell B2.out 3 (.string (Cm.tx c.dm)) rfl; have y3 := Blk.free B2.out 3))
  go_ret2
  exact ⟨rfl, B2.out, Chg.ofBelow L2.out _⟩
set_option maxHeartbeats 4000000 in
theorem where_d (r : Nat) (c : Cm.Cmd) (rest word : ByteArray) (hz : rest.size ≤ 100000) (hwz : word.size ≤ 10) (h0 : word.size ≤ rest.size) (a1 up : ByteArray) (x1 : rest.extract 0 word.size = a1) (hu : (⟨(Txt.upper a1.data.toList).toArray⟩ : ByteArray) = up) (e1 : (up.toList != word.toList) = false) (e2 : (up.toList == word.toList) = true) (a2 : ByteArray) (x2 : rest.extract word.size rest.size = a2) (lo dm rb : ByteArray) (hp : ptVal (Pt.parse a2.data.toList) = .tuple #[.agg #[.string lo, .string dm], .string rb, .int .i64 0]) (ws : ByteArray) (k1 : (⟨(Lib.trimPrefix rb.data.toList [32]).toArray⟩ : ByteArray) = ws) (k2 : Lib.hasPrefix rb.data.toList [32] = false) (k3 : rb.toList.isEmpty = true)  (w : World) (hl : Lv w) (hb : Blk w r c.cells 31) : Calls Tryz.prog 63 #[.pointer (some ⟨r, 0, none⟩), .string rest, .string word] w fun e w' => e = .returned (.tuple #[.string ws, .int .i64 0]) ∧ Blk w' r ({ c with lo := lo.data.toList, dm := dm.data.toList } : Cm.Cmd).cells 31 ∧ Chg (fun k => k = r) w w' := by
  have d0 : decide ((rest.size : Int) < (word.size : Int)) = false := decide_eq_false (by omega)
  have d1 : (word.size : Int) ≤ (rest.size : Int) := by omega
  have d2 : (0 : Int) ≤ (word.size : Int) := by omega
  have ha1 : a1.size ≤ 100000 := by rw [← x1]; simp; omega
  have hup := fun W => command_upper a1 W (by omega)
  rw [hu] at hup
  have ha2 : a2.size ≤ 100000 := by rw [← x2]; simp; omega
  have hpp := fun W (hW : Lv W) => pathParse_any a2 (by omega) W hW
  rw [hp] at hpp
  clear ha1 ha2 hu h0 hp
  have hcp := fun W => Tryz.strings_CutPrefix rb ⟨#[32]⟩ W
  change ∀ W, Calls _ _ _ W (fun e w' => e = .returned (.tuple #[.string ⟨(Lib.trimPrefix rb.data.toList [32]).toArray⟩, .bool (Lib.hasPrefix rb.data.toList [32])]) ∧ _) at hcp
  rw [k1, k2] at hcp
  clear k1 k2
  have B1 := Aside.mk hb
  have L1 : Aside (Below w.heap.size w w) := ⟨Below.refl _ _⟩
  have HLv : Aside (∀ W, Below w.heap.size w W → Lv W) := ⟨fun W h => hl.next h⟩
  have HC := Aside.mk (cmd_path c lo dm)
  clear hb hl hz
  go_enter Tryz.func63, Tryz.ntmps63
  go_wp2_with (first | (go_at_call 29; (with_reducible refine (hup _).mono ?_); rintro e w1 ⟨rfl, hb1⟩; replace L1 := Aside.mk (L1.out.trans (hb1.mono L1.out.size)); replace B1 := Aside.mk (Blk.below B1.out hb1); clear hb1) | (go_at_call 12; (with_reducible refine (hpp _ (HLv.out _ L1.out)).mono ?_); rintro e w1 ⟨rfl, hb1⟩; replace L1 := Aside.mk (L1.out.trans (hb1.mono L1.out.size)); replace B1 := Aside.mk (Blk.below B1.out hb1); clear hb1) | ((with_reducible refine at_store (p := 8) rfl ?_); refine store_new rfl 23 _ _ #[.string ⟨#[]⟩, .string ⟨#[]⟩] #[.string lo, .string dm] (by rfl) _ rfl (by rfl) (by rfl) (by kernel_rfl) rfl (by simp [Value.oneCell']) ?_; have B2 := Aside.mk (Blk.old B1.out (.cells #[.string lo, .string dm] 23)); have L2 := Aside.mk (Below.alloc L1.out L1.out.size (.cells #[.string lo, .string dm] 23)); have z2 := Blk.cell B2.out 2 (.string (Cm.tx c.lo)) rfl; have y2 := Blk.free B2.out 2; have z3 := Blk.cell B2.out 3 (.string (Cm.tx c.dm)) rfl; have y3 := Blk.free B2.out 3) | (go_at_call 31; (with_reducible refine (hcp _).mono ?_); rintro e w_ ⟨rfl, hw_⟩; have hw2_ := hw_.symm; subst hw2_; clear hw_))
  go_ret2
  exact ⟨rfl, by have := (Blk.set B2.out 2 (.string lo)).set 3 (.string dm); rw [HC.out] at this; exact this, ((Chg.ofBelow L2.out (fun k => k = r)).setCell (p := ⟨r, 2, none⟩) (fun _ => rfl) _).setCell (p := ⟨r, 3, none⟩) (fun _ => rfl) _⟩
set_option maxHeartbeats 4000000 in
theorem where_e (r : Nat) (c : Cm.Cmd) (rest word : ByteArray) (hz : rest.size ≤ 100000) (hwz : word.size ≤ 10) (h0 : word.size ≤ rest.size) (a1 up : ByteArray) (x1 : rest.extract 0 word.size = a1) (hu : (⟨(Txt.upper a1.data.toList).toArray⟩ : ByteArray) = up) (e1 : (up.toList != word.toList) = false) (e2 : (up.toList == word.toList) = true) (a2 : ByteArray) (x2 : rest.extract word.size rest.size = a2) (lo dm rb : ByteArray) (hp : ptVal (Pt.parse a2.data.toList) = .tuple #[.agg #[.string lo, .string dm], .string rb, .int .i64 0]) (ws : ByteArray) (k1 : (⟨(Lib.trimPrefix rb.data.toList [32]).toArray⟩ : ByteArray) = ws) (k2 : Lib.hasPrefix rb.data.toList [32] = true) (k3 : rb.toList.isEmpty = false) (k4 : ws.toList.isEmpty = true) (w : World) (hl : Lv w) (hb : Blk w r c.cells 31) : Calls Tryz.prog 63 #[.pointer (some ⟨r, 0, none⟩), .string rest, .string word] w fun e w' => e = .returned (.tuple #[.string ⟨#[]⟩, .int .i64 2]) ∧ Blk w' r c.cells 31 ∧ Chg (fun k => k = r) w w' := by
  have d0 : decide ((rest.size : Int) < (word.size : Int)) = false := decide_eq_false (by omega)
  have d1 : (word.size : Int) ≤ (rest.size : Int) := by omega
  have d2 : (0 : Int) ≤ (word.size : Int) := by omega
  have ha1 : a1.size ≤ 100000 := by rw [← x1]; simp; omega
  have hup := fun W => command_upper a1 W (by omega)
  rw [hu] at hup
  have ha2 : a2.size ≤ 100000 := by rw [← x2]; simp; omega
  have hpp := fun W (hW : Lv W) => pathParse_any a2 (by omega) W hW
  rw [hp] at hpp
  clear ha1 ha2 hu h0 hp
  have hcp := fun W => Tryz.strings_CutPrefix rb ⟨#[32]⟩ W
  change ∀ W, Calls _ _ _ W (fun e w' => e = .returned (.tuple #[.string ⟨(Lib.trimPrefix rb.data.toList [32]).toArray⟩, .bool (Lib.hasPrefix rb.data.toList [32])]) ∧ _) at hcp
  rw [k1, k2] at hcp
  clear k1 k2
  have B1 := Aside.mk hb
  have L1 : Aside (Below w.heap.size w w) := ⟨Below.refl _ _⟩
  have HLv : Aside (∀ W, Below w.heap.size w W → Lv W) := ⟨fun W h => hl.next h⟩
  clear hb hl hz
  go_enter Tryz.func63, Tryz.ntmps63
  go_wp2_with (first | (go_at_call 29; (with_reducible refine (hup _).mono ?_); rintro e w1 ⟨rfl, hb1⟩; replace L1 := Aside.mk (L1.out.trans (hb1.mono L1.out.size)); replace B1 := Aside.mk (Blk.below B1.out hb1); clear hb1) | (go_at_call 12; (with_reducible refine (hpp _ (HLv.out _ L1.out)).mono ?_); rintro e w1 ⟨rfl, hb1⟩; replace L1 := Aside.mk (L1.out.trans (hb1.mono L1.out.size)); replace B1 := Aside.mk (Blk.below B1.out hb1); clear hb1) | ((with_reducible refine at_store (p := 8) rfl ?_); refine store_new rfl 23 _ _ #[.string ⟨#[]⟩, .string ⟨#[]⟩] #[.string lo, .string dm] (by rfl) _ rfl (by rfl) (by rfl) (by kernel_rfl) rfl (by simp [Value.oneCell']) ?_; have B2 := Aside.mk (Blk.old B1.out (.cells #[.string lo, .string dm] 23)); have L2 := Aside.mk (Below.alloc L1.out L1.out.size (.cells #[.string lo, .string dm] 23)); have z2 := Blk.cell B2.out 2 (.string (Cm.tx c.lo)) rfl; have y2 := Blk.free B2.out 2; have z3 := Blk.cell B2.out 3 (.string (Cm.tx c.dm)) rfl; have y3 := Blk.free B2.out 3) | (go_at_call 31; (with_reducible refine (hcp _).mono ?_); rintro e w_ ⟨rfl, hw_⟩; have hw2_ := hw_.symm; subst hw2_; clear hw_))
  go_ret2
  exact ⟨rfl, B2.out, Chg.ofBelow L2.out _⟩
set_option maxHeartbeats 4000000 in
theorem where_f (r : Nat) (c : Cm.Cmd) (rest word : ByteArray) (hz : rest.size ≤ 100000) (hwz : word.size ≤ 10) (h0 : word.size ≤ rest.size) (a1 up : ByteArray) (x1 : rest.extract 0 word.size = a1) (hu : (⟨(Txt.upper a1.data.toList).toArray⟩ : ByteArray) = up) (e1 : (up.toList != word.toList) = false) (e2 : (up.toList == word.toList) = true) (a2 : ByteArray) (x2 : rest.extract word.size rest.size = a2) (lo dm rb : ByteArray) (hp : ptVal (Pt.parse a2.data.toList) = .tuple #[.agg #[.string lo, .string dm], .string rb, .int .i64 0]) (ws : ByteArray) (k1 : (⟨(Lib.trimPrefix rb.data.toList [32]).toArray⟩ : ByteArray) = ws) (k2 : Lib.hasPrefix rb.data.toList [32] = true) (k3 : rb.toList.isEmpty = false) (k4 : ws.toList.isEmpty = false) (w : World) (hl : Lv w) (hb : Blk w r c.cells 31) : Calls Tryz.prog 63 #[.pointer (some ⟨r, 0, none⟩), .string rest, .string word] w fun e w' => e = .returned (.tuple #[.string ws, .int .i64 0]) ∧ Blk w' r ({ c with lo := lo.data.toList, dm := dm.data.toList } : Cm.Cmd).cells 31 ∧ Chg (fun k => k = r) w w' := by
  have d0 : decide ((rest.size : Int) < (word.size : Int)) = false := decide_eq_false (by omega)
  have d1 : (word.size : Int) ≤ (rest.size : Int) := by omega
  have d2 : (0 : Int) ≤ (word.size : Int) := by omega
  have ha1 : a1.size ≤ 100000 := by rw [← x1]; simp; omega
  have hup := fun W => command_upper a1 W (by omega)
  rw [hu] at hup
  have ha2 : a2.size ≤ 100000 := by rw [← x2]; simp; omega
  have hpp := fun W (hW : Lv W) => pathParse_any a2 (by omega) W hW
  rw [hp] at hpp
  clear ha1 ha2 hu h0 hp
  have hcp := fun W => Tryz.strings_CutPrefix rb ⟨#[32]⟩ W
  change ∀ W, Calls _ _ _ W (fun e w' => e = .returned (.tuple #[.string ⟨(Lib.trimPrefix rb.data.toList [32]).toArray⟩, .bool (Lib.hasPrefix rb.data.toList [32])]) ∧ _) at hcp
  rw [k1, k2] at hcp
  clear k1 k2
  have B1 := Aside.mk hb
  have L1 : Aside (Below w.heap.size w w) := ⟨Below.refl _ _⟩
  have HLv : Aside (∀ W, Below w.heap.size w W → Lv W) := ⟨fun W h => hl.next h⟩
  have HC := Aside.mk (cmd_path c lo dm)
  clear hb hl hz
  go_enter Tryz.func63, Tryz.ntmps63
  go_wp2_with (first | (go_at_call 29; (with_reducible refine (hup _).mono ?_); rintro e w1 ⟨rfl, hb1⟩; replace L1 := Aside.mk (L1.out.trans (hb1.mono L1.out.size)); replace B1 := Aside.mk (Blk.below B1.out hb1); clear hb1) | (go_at_call 12; (with_reducible refine (hpp _ (HLv.out _ L1.out)).mono ?_); rintro e w1 ⟨rfl, hb1⟩; replace L1 := Aside.mk (L1.out.trans (hb1.mono L1.out.size)); replace B1 := Aside.mk (Blk.below B1.out hb1); clear hb1) | ((with_reducible refine at_store (p := 8) rfl ?_); refine store_new rfl 23 _ _ #[.string ⟨#[]⟩, .string ⟨#[]⟩] #[.string lo, .string dm] (by rfl) _ rfl (by rfl) (by rfl) (by kernel_rfl) rfl (by simp [Value.oneCell']) ?_; have B2 := Aside.mk (Blk.old B1.out (.cells #[.string lo, .string dm] 23)); have L2 := Aside.mk (Below.alloc L1.out L1.out.size (.cells #[.string lo, .string dm] 23)); have z2 := Blk.cell B2.out 2 (.string (Cm.tx c.lo)) rfl; have y2 := Blk.free B2.out 2; have z3 := Blk.cell B2.out 3 (.string (Cm.tx c.dm)) rfl; have y3 := Blk.free B2.out 3) | (go_at_call 31; (with_reducible refine (hcp _).mono ?_); rintro e w_ ⟨rfl, hw_⟩; have hw2_ := hw_.symm; subst hw2_; clear hw_))
  go_ret2
  exact ⟨rfl, by have := (Blk.set B2.out 2 (.string lo)).set 3 (.string dm); rw [HC.out] at this; exact this, ((Chg.ofBelow L2.out (fun k => k = r)).setCell (p := ⟨r, 2, none⟩) (fun _ => rfl) _).setCell (p := ⟨r, 3, none⟩) (fun _ => rfl) _⟩
set_option maxHeartbeats 4000000 in
theorem where_g (r : Nat) (c : Cm.Cmd) (rest word : ByteArray) (hz : rest.size ≤ 100000) (hwz : word.size ≤ 10) (h0 : word.size ≤ rest.size) (a1 up : ByteArray) (x1 : rest.extract 0 word.size = a1) (hu : (⟨(Txt.upper a1.data.toList).toArray⟩ : ByteArray) = up) (e1 : (up.toList != word.toList) = false) (e2 : (up.toList == word.toList) = true) (a2 : ByteArray) (x2 : rest.extract word.size rest.size = a2) (lo dm rb : ByteArray) (hp : ptVal (Pt.parse a2.data.toList) = .tuple #[.agg #[.string lo, .string dm], .string rb, .int .i64 0]) (ws : ByteArray) (k1 : (⟨(Lib.trimPrefix rb.data.toList [32]).toArray⟩ : ByteArray) = ws) (k2 : Lib.hasPrefix rb.data.toList [32] = false) (k3 : rb.toList.isEmpty = false)  (w : World) (hl : Lv w) (hb : Blk w r c.cells 31) : Calls Tryz.prog 63 #[.pointer (some ⟨r, 0, none⟩), .string rest, .string word] w fun e w' => e = .returned (.tuple #[.string ⟨#[]⟩, .int .i64 2]) ∧ Blk w' r c.cells 31 ∧ Chg (fun k => k = r) w w' := by
  have d0 : decide ((rest.size : Int) < (word.size : Int)) = false := decide_eq_false (by omega)
  have d1 : (word.size : Int) ≤ (rest.size : Int) := by omega
  have d2 : (0 : Int) ≤ (word.size : Int) := by omega
  have ha1 : a1.size ≤ 100000 := by rw [← x1]; simp; omega
  have hup := fun W => command_upper a1 W (by omega)
  rw [hu] at hup
  have ha2 : a2.size ≤ 100000 := by rw [← x2]; simp; omega
  have hpp := fun W (hW : Lv W) => pathParse_any a2 (by omega) W hW
  rw [hp] at hpp
  clear ha1 ha2 hu h0 hp
  have hcp := fun W => Tryz.strings_CutPrefix rb ⟨#[32]⟩ W
  change ∀ W, Calls _ _ _ W (fun e w' => e = .returned (.tuple #[.string ⟨(Lib.trimPrefix rb.data.toList [32]).toArray⟩, .bool (Lib.hasPrefix rb.data.toList [32])]) ∧ _) at hcp
  rw [k1, k2] at hcp
  clear k1 k2
  have B1 := Aside.mk hb
  have L1 : Aside (Below w.heap.size w w) := ⟨Below.refl _ _⟩
  have HLv : Aside (∀ W, Below w.heap.size w W → Lv W) := ⟨fun W h => hl.next h⟩
  clear hb hl hz
  go_enter Tryz.func63, Tryz.ntmps63
  go_wp2_with (first | (go_at_call 29; (with_reducible refine (hup _).mono ?_); rintro e w1 ⟨rfl, hb1⟩; replace L1 := Aside.mk (L1.out.trans (hb1.mono L1.out.size)); replace B1 := Aside.mk (Blk.below B1.out hb1); clear hb1) | (go_at_call 12; (with_reducible refine (hpp _ (HLv.out _ L1.out)).mono ?_); rintro e w1 ⟨rfl, hb1⟩; replace L1 := Aside.mk (L1.out.trans (hb1.mono L1.out.size)); replace B1 := Aside.mk (Blk.below B1.out hb1); clear hb1) | ((with_reducible refine at_store (p := 8) rfl ?_); refine store_new rfl 23 _ _ #[.string ⟨#[]⟩, .string ⟨#[]⟩] #[.string lo, .string dm] (by rfl) _ rfl (by rfl) (by rfl) (by kernel_rfl) rfl (by simp [Value.oneCell']) ?_; have B2 := Aside.mk (Blk.old B1.out (.cells #[.string lo, .string dm] 23)); have L2 := Aside.mk (Below.alloc L1.out L1.out.size (.cells #[.string lo, .string dm] 23)); have z2 := Blk.cell B2.out 2 (.string (Cm.tx c.lo)) rfl; have y2 := Blk.free B2.out 2; have z3 := Blk.cell B2.out 3 (.string (Cm.tx c.dm)) rfl; have y3 := Blk.free B2.out 3) | (go_at_call 31; (with_reducible refine (hcp _).mono ?_); rintro e w_ ⟨rfl, hw_⟩; have hw2_ := hw_.symm; subst hw2_; clear hw_))
  go_ret2
  exact ⟨rfl, B2.out, Chg.ofBelow L2.out _⟩
/-- What where leaves. -/
def whCmd (c : Cm.Cmd) (rest word : List UInt8) : Cm.Cmd := if (Cm.wh rest word).2.2 = 0 then { c with lo := (Cm.wh rest word).1.1, dm := (Cm.wh rest word).1.2 } else c
theorem where_m (r : Nat) (c : Cm.Cmd) (rest word : ByteArray) (hz : rest.size ≤ 100000) (hwz : word.size ≤ 10) (w : World) (hl : Lv w) (hb : Blk w r c.cells 31) : Calls Tryz.prog 63 #[.pointer (some ⟨r, 0, none⟩), .string rest, .string word] w fun e w' => e = .returned (.tuple #[.string (Cm.tx (Cm.wh rest.data.toList word.data.toList).2.1), .int .i64 (Cm.wh rest.data.toList word.data.toList).2.2]) ∧ Blk w' r (whCmd c rest.data.toList word.data.toList).cells 31 ∧ Chg (fun k => k = r) w w' := by
  have hrl : rest.data.toList.length = rest.size := by simp
  have hwl : word.data.toList.length = word.size := by simp
  by_cases h0 : rest.size < word.size
  · have hw : Cm.wh rest.data.toList word.data.toList = (([], []), [], 2) := by unfold Cm.wh; rw [if_pos (.inl (by omega))]
    unfold whCmd
    rw [hw, if_neg (by decide)]
    exact where_a r c rest word hz hwz h0 w hl hb
  · have hle : word.size ≤ rest.size := by omega
    have x1 := ext_take rest word.size
    have x2 := ext_from rest word.size
    by_cases hu : Txt.upper (rest.data.toList.take word.size) = word.data.toList
    · have e2 : ((⟨(Txt.upper (rest.extract 0 word.size).data.toList).toArray⟩ : ByteArray).toList == word.toList) = true := by rw [Lib.toList_data, Lib.toList_data, ba_of, x1, hu]; simp
      have e1 : ((⟨(Txt.upper (rest.extract 0 word.size).data.toList).toArray⟩ : ByteArray).toList != word.toList) = false := by rw [bne, e2]; rfl
      obtain ⟨p, hp⟩ : ∃ p, Pt.parse (rest.data.toList.drop word.size) = p := ⟨_, rfl⟩
      obtain ⟨⟨lo, dm⟩, rb, e⟩ := p
      have hpv : ptVal (Pt.parse (rest.extract word.size rest.size).data.toList) = .tuple #[.agg #[.string ⟨lo.toArray⟩, .string ⟨dm.toArray⟩], .string ⟨rb.toArray⟩, .int .i64 e] := by rw [x2, hp]; rfl
      have hw : Cm.wh rest.data.toList word.data.toList = if e ≠ 0 then (([], []), [], e) else match rb with
          | [] => ((lo, dm), [], 0)
          | 32 :: x :: w => ((lo, dm), x :: w, 0)
          | _ => (([], []), [], 2) := by
        unfold Cm.wh
        rw [if_neg (by rw [hwl, hu]; rintro (q | q); omega; exact q rfl), hwl, hp]
        all_goals rfl
      have hLo : (⟨lo.toArray⟩ : ByteArray).data.toList = lo := ba_of lo
      have hDm : (⟨dm.toArray⟩ : ByteArray).data.toList = dm := ba_of dm
      by_cases he : e = 0
      · subst he
        rw [if_neg (by simp)] at hw
        unfold whCmd
        cases rb with
        | nil =>
          simp only at hw
          rw [hw, if_pos rfl]
          have := where_d r c rest word hz hwz hle _ _ rfl rfl e1 e2 _ rfl ⟨lo.toArray⟩ ⟨dm.toArray⟩ ⟨#[]⟩ hpv _ rfl (by rfl) (by kernel_rfl) w hl hb
          rw [hLo, hDm] at this
          exact this
        | cons b rb =>
          by_cases hb32 : b = 32
          · subst hb32
            have k2 : Lib.hasPrefix (⟨(32 :: rb : List UInt8).toArray⟩ : ByteArray).data.toList [32] = true := by rw [ba_of]; exact pre_one.2 ⟨rb, rfl⟩
            have k3 : (⟨(32 :: rb : List UInt8).toArray⟩ : ByteArray).toList.isEmpty = false := by rw [Lib.toList_data, ba_of]; rfl
            have k1 : (⟨(Lib.trimPrefix (⟨(32 :: rb : List UInt8).toArray⟩ : ByteArray).data.toList [32]).toArray⟩ : ByteArray) = ⟨rb.toArray⟩ := by rw [ba_of, trim_one]
            cases rb with
            | nil =>
              simp only at hw
              rw [hw, if_neg (by decide)]
              exact where_e r c rest word hz hwz hle _ _ rfl rfl e1 e2 _ rfl ⟨lo.toArray⟩ ⟨dm.toArray⟩ _ hpv _ k1 k2 k3 (by kernel_rfl) w hl hb
            | cons x rb =>
              simp only at hw
              rw [hw, if_pos rfl]
              have := where_f r c rest word hz hwz hle _ _ rfl rfl e1 e2 _ rfl ⟨lo.toArray⟩ ⟨dm.toArray⟩ _ hpv _ k1 k2 k3 (by rw [Lib.toList_data, ba_of]; rfl) w hl hb
              rw [hLo, hDm] at this
              exact this
          · have hw2 : Cm.wh rest.data.toList word.data.toList = (([], []), [], 2) := by
              rw [hw]
              split
              · rename_i q; cases q
              · rename_i q; injection q with q1 q2; exact absurd q1 hb32
              · rfl
            have k2 : Lib.hasPrefix (⟨(b :: rb : List UInt8).toArray⟩ : ByteArray).data.toList [32] = false := by
              rw [ba_of, ← Bool.not_eq_true, pre_one]
              rintro ⟨r2, q⟩
              injection q with q1 q2
              exact hb32 q1
            have k3 : (⟨(b :: rb : List UInt8).toArray⟩ : ByteArray).toList.isEmpty = false := by rw [Lib.toList_data, ba_of]; rfl
            rw [hw2, if_neg (by decide)]
            exact where_g r c rest word hz hwz hle _ _ rfl rfl e1 e2 _ rfl ⟨lo.toArray⟩ ⟨dm.toArray⟩ _ hpv _ rfl k2 k3 w hl hb
      · rw [if_pos he] at hw
        unfold whCmd
        rw [hw, if_neg he]
        exact where_c r c rest word hz hwz hle _ _ rfl rfl e1 e2 _ rfl ⟨lo.toArray⟩ ⟨dm.toArray⟩ ⟨rb.toArray⟩ e hpv (by simpa using he) (by simpa using he) w hl hb
    · have hw : Cm.wh rest.data.toList word.data.toList = (([], []), [], 2) := by unfold Cm.wh; rw [if_pos (.inr (by rw [hwl]; exact hu))]
      have e2 : ((⟨(Txt.upper (rest.extract 0 word.size).data.toList).toArray⟩ : ByteArray).toList == word.toList) = false := by rw [Lib.toList_data, Lib.toList_data, ba_of, x1]; exact beq_eq_false_iff_ne.2 hu
      unfold whCmd
      rw [hw, if_neg (by decide)]
      exact where_b r c rest word hz hwz hle _ _ rfl rfl (by rw [bne, e2]; rfl) e2 w hl hb
end Go.Proofs.YtllhbcpbihhdnaaGreatDoor
end
section
set_option linter.unusedVariables false
set_option linter.unusedSimpArgs false
namespace Go.Proofs.YtllhbcpbihhdnaaGreatDoor
open Go.RowKit Go.Shelf Pm
set_option maxRecDepth 100000
section
variable {P : Program} {ops : Array Oper} {rest : List Oper} {o : Oper} {a : Act} {w : World} {Q : Exit → Act → World → Prop}
/-- A row stored into a block, behind its first cells. -/
theorem store_off (hgd : o.guard = none) (T : TypeId) (x y : Operand) (ho : o.op = .store T x y) (b k : Nat) (hx : a.eval x = .pointer (some ⟨b, k, none⟩)) (c c' : Array Value) (t : TypeId) (hb : Blk w b c t) (hy : a.eval y = .agg c')
    (hs : k + c'.size ≤ c.size) (hi : (P.info? T).map (·.size) = some c'.size) (h1 : c'.all (·.oneCell') = true)
    (h : ∀ w', Blk w' b (setL c k c'.toList) t → Chg (fun k => k = b) w w' → wpList P ops Q rest (a.put o.dst undef) w') : wpList P ops Q (o :: rest) a w := by
  refine wpList_store_mid hgd T x y ho b k c' hx hy (fun j hj => ?_) hi h1 (h _ (Blk.setCells c'.toList k hb) (chg_setCells _ _ _))
  refine ⟨?_, hb.free _⟩
  rw [hb.cell (k + j) c[k + j] (Array.getElem?_eq_getElem (by omega))]
  rfl
end
theorem cmd_ml (c : Cm.Cmd) (m : Ml) : setL c.cells 4 m.cells.toList = ({ c with ml := m } : Cm.Cmd).cells := by kernel_rfl
theorem cmd_rc (c : Cm.Cmd) (m : Rc) : setL c.cells 18 m.cells.toList = ({ c with rc := m } : Cm.Cmd).cells := by kernel_rfl
theorem ml_ones (m : Ml) : m.cells.all (·.oneCell') = true := by unfold Ml.cells; simp [Value.oneCell']
theorem rc_ones (m : Rc) : m.cells.all (·.oneCell') = true := by unfold Rc.cells; simp [Value.oneCell']
set_option maxHeartbeats 4000000 in
theorem from_a (r : Nat) (c c1 : Cm.Cmd) (rest wds : ByteArray) (has : Bool) (ee : Int) (g1 : (ee == 0) = false) (g2 : (ee != 0) = true) (w : World) (hlv : ∀ W, Chg (fun k => k = r) w W → Lv W) (hb : Blk w r c.cells 31)
    (hwh : Calls Tryz.prog 63 #[.pointer (some ⟨r, 0, none⟩), .string rest, .string ⟨#[70, 82, 79, 77, 58]⟩] w fun e w' => e = .returned (.tuple #[.string wds, .int .i64 ee]) ∧ Blk w' r c1.cells 31 ∧ Chg (fun k => k = r) w w') :
    Calls Tryz.prog 20 #[.pointer (some ⟨r, 0, none⟩), .string rest, .bool has] w fun e w' => e = .returned (.int .i64 ee) ∧ Blk w' r c1.cells 31 ∧ Chg (fun k => k = r) w w' := by
  go_enter Tryz.func20, Tryz.ntmps20
  go_wp2_with (first | (go_at_call 63; (with_reducible refine hwh.mono ?_); rintro e w1 ⟨rfl, hb1, hc1⟩; have B1 := Aside.mk hb1; have C1 := Aside.mk hc1; clear hb1 hc1; have z2 := Blk.cell B1.out 2 (.string (Cm.tx c1.lo)) rfl; have z3 := Blk.cell B1.out 3 (.string (Cm.tx c1.dm)) rfl))
  go_ret
  exact ⟨rfl, B1.out, C1.out⟩
set_option maxHeartbeats 4000000 in
theorem from_b (r : Nat) (c c1 : Cm.Cmd) (rest wds : ByteArray) (has : Bool) (g1 : (Cm.tx c1.dm).toList.isEmpty = true) (g2 : (Cm.tx c1.lo).toList.isEmpty = false) (w : World) (hlv : ∀ W, Chg (fun k => k = r) w W → Lv W) (hb : Blk w r c.cells 31)
    (hwh : Calls Tryz.prog 63 #[.pointer (some ⟨r, 0, none⟩), .string rest, .string ⟨#[70, 82, 79, 77, 58]⟩] w fun e w' => e = .returned (.tuple #[.string wds, .int .i64 0]) ∧ Blk w' r c1.cells 31 ∧ Chg (fun k => k = r) w w') :
    Calls Tryz.prog 20 #[.pointer (some ⟨r, 0, none⟩), .string rest, .bool has] w fun e w' => e = .returned (.int .i64 2) ∧ Blk w' r c1.cells 31 ∧ Chg (fun k => k = r) w w' := by
  go_enter Tryz.func20, Tryz.ntmps20
  go_wp2_with (first | (go_at_call 63; (with_reducible refine hwh.mono ?_); rintro e w1 ⟨rfl, hb1, hc1⟩; have B1 := Aside.mk hb1; have C1 := Aside.mk hc1; clear hb1 hc1; have z2 := Blk.cell B1.out 2 (.string (Cm.tx c1.lo)) rfl; have z3 := Blk.cell B1.out 3 (.string (Cm.tx c1.dm)) rfl))
  go_ret
  exact ⟨rfl, B1.out, C1.out⟩
set_option maxHeartbeats 4000000 in
theorem from_c (r : Nat) (c c1 : Cm.Cmd) (rest wds : ByteArray) (has : Bool) (g1 : (Cm.tx c1.dm).toList.isEmpty = false) (m : Ml) (f : Int) (hpm : ∀ W, Lv W → Calls Tryz.prog 13 #[.string wds] W fun e w' => e = .returned (.tuple #[.agg m.cells, .int .i64 f]) ∧ Below W.heap.size W w')  (w : World) (hlv : ∀ W, Chg (fun k => k = r) w W → Lv W) (hb : Blk w r c.cells 31)
    (hwh : Calls Tryz.prog 63 #[.pointer (some ⟨r, 0, none⟩), .string rest, .string ⟨#[70, 82, 79, 77, 58]⟩] w fun e w' => e = .returned (.tuple #[.string wds, .int .i64 0]) ∧ Blk w' r c1.cells 31 ∧ Chg (fun k => k = r) w w') :
    Calls Tryz.prog 20 #[.pointer (some ⟨r, 0, none⟩), .string rest, .bool has] w fun e w' => e = .returned (.int .i64 f) ∧ Blk w' r ({ c1 with ml := m } : Cm.Cmd).cells 31 ∧ Chg (fun k => k = r) w w' := by
  go_enter Tryz.func20, Tryz.ntmps20
  go_wp2_with (first | (go_at_call 63; (with_reducible refine hwh.mono ?_); rintro e w1 ⟨rfl, hb1, hc1⟩; have B1 := Aside.mk hb1; have C1 := Aside.mk hc1; clear hb1 hc1; have z2 := Blk.cell B1.out 2 (.string (Cm.tx c1.lo)) rfl; have z3 := Blk.cell B1.out 3 (.string (Cm.tx c1.dm)) rfl) | (go_at_call 13; (with_reducible refine (hpm _ (hlv _ C1.out)).mono ?_); rintro e w2 ⟨rfl, hb2⟩; have L2 := Aside.mk hb2; have B1' := Aside.mk (Blk.below B1.out hb2); clear hb2) | ((with_reducible refine at_store (p := 42) rfl ?_); refine store_off rfl 27 _ _ (by rfl) r 4 (by rfl) c1.cells m.cells 31 B1'.out (by rfl) (show 4 + 14 ≤ 21 by decide) (by kernel_rfl) (ml_ones _) ?_; intro w5 hb5 hc5; have B2 := Aside.mk hb5; have C2 := Aside.mk (C1.out.trans (Chg.ofBelow L2.out (fun k => k = r)) (fun _ _ q => q) |>.trans hc5 (fun _ _ q => q)); clear hb5 hc5))
  go_ret
  exact ⟨rfl, by have := B2.out; rw [cmd_ml] at this; exact this, C2.out⟩
set_option maxHeartbeats 4000000 in
theorem from_d (r : Nat) (c c1 : Cm.Cmd) (rest wds : ByteArray) (has : Bool) (g1 : (Cm.tx c1.dm).toList.isEmpty = true) (g2 : (Cm.tx c1.lo).toList.isEmpty = true) (m : Ml) (f : Int) (hpm : ∀ W, Lv W → Calls Tryz.prog 13 #[.string wds] W fun e w' => e = .returned (.tuple #[.agg m.cells, .int .i64 f]) ∧ Below W.heap.size W w')  (w : World) (hlv : ∀ W, Chg (fun k => k = r) w W → Lv W) (hb : Blk w r c.cells 31)
    (hwh : Calls Tryz.prog 63 #[.pointer (some ⟨r, 0, none⟩), .string rest, .string ⟨#[70, 82, 79, 77, 58]⟩] w fun e w' => e = .returned (.tuple #[.string wds, .int .i64 0]) ∧ Blk w' r c1.cells 31 ∧ Chg (fun k => k = r) w w') :
    Calls Tryz.prog 20 #[.pointer (some ⟨r, 0, none⟩), .string rest, .bool has] w fun e w' => e = .returned (.int .i64 f) ∧ Blk w' r ({ c1 with ml := m } : Cm.Cmd).cells 31 ∧ Chg (fun k => k = r) w w' := by
  go_enter Tryz.func20, Tryz.ntmps20
  go_wp2_with (first | (go_at_call 63; (with_reducible refine hwh.mono ?_); rintro e w1 ⟨rfl, hb1, hc1⟩; have B1 := Aside.mk hb1; have C1 := Aside.mk hc1; clear hb1 hc1; have z2 := Blk.cell B1.out 2 (.string (Cm.tx c1.lo)) rfl; have z3 := Blk.cell B1.out 3 (.string (Cm.tx c1.dm)) rfl) | (go_at_call 13; (with_reducible refine (hpm _ (hlv _ C1.out)).mono ?_); rintro e w2 ⟨rfl, hb2⟩; have L2 := Aside.mk hb2; have B1' := Aside.mk (Blk.below B1.out hb2); clear hb2) | ((with_reducible refine at_store (p := 42) rfl ?_); refine store_off rfl 27 _ _ (by rfl) r 4 (by rfl) c1.cells m.cells 31 B1'.out (by rfl) (show 4 + 14 ≤ 21 by decide) (by kernel_rfl) (ml_ones _) ?_; intro w5 hb5 hc5; have B2 := Aside.mk hb5; have C2 := Aside.mk (C1.out.trans (Chg.ofBelow L2.out (fun k => k = r)) (fun _ _ q => q) |>.trans hc5 (fun _ _ q => q)); clear hb5 hc5))
  go_ret
  exact ⟨rfl, by have := B2.out; rw [cmd_ml] at this; exact this, C2.out⟩
set_option maxHeartbeats 4000000 in
theorem to_a (r : Nat) (c c1 : Cm.Cmd) (rest wds : ByteArray) (has : Bool) (ee : Int) (g1 : (ee == 0) = false) (g2 : (ee != 0) = true) (w : World) (hlv : ∀ W, Chg (fun k => k = r) w W → Lv W) (hb : Blk w r c.cells 31)
    (hwh : Calls Tryz.prog 63 #[.pointer (some ⟨r, 0, none⟩), .string rest, .string ⟨#[84, 79, 58]⟩] w fun e w' => e = .returned (.tuple #[.string wds, .int .i64 ee]) ∧ Blk w' r c1.cells 31 ∧ Chg (fun k => k = r) w w') :
    Calls Tryz.prog 21 #[.pointer (some ⟨r, 0, none⟩), .string rest, .bool has] w fun e w' => e = .returned (.int .i64 ee) ∧ Blk w' r c1.cells 31 ∧ Chg (fun k => k = r) w w' := by
  go_enter Tryz.func21, Tryz.ntmps21
  go_wp2_with (first | (go_at_call 63; (with_reducible refine hwh.mono ?_); rintro e w1 ⟨rfl, hb1, hc1⟩; have B1 := Aside.mk hb1; have C1 := Aside.mk hc1; clear hb1 hc1; have z2 := Blk.cell B1.out 2 (.string (Cm.tx c1.lo)) rfl; have z3 := Blk.cell B1.out 3 (.string (Cm.tx c1.dm)) rfl))
  go_ret
  exact ⟨rfl, B1.out, C1.out⟩
set_option maxHeartbeats 4000000 in
theorem to_b (r : Nat) (c c1 : Cm.Cmd) (rest wds : ByteArray) (has : Bool) (hnu : ∀ W, Calls Tryz.prog 15 #[.agg #[.string (Cm.tx c1.lo), .string (Cm.tx c1.dm)]] W fun e w' => e = .returned (.bool true) ∧ Below W.heap.size W w')  (w : World) (hlv : ∀ W, Chg (fun k => k = r) w W → Lv W) (hb : Blk w r c.cells 31)
    (hwh : Calls Tryz.prog 63 #[.pointer (some ⟨r, 0, none⟩), .string rest, .string ⟨#[84, 79, 58]⟩] w fun e w' => e = .returned (.tuple #[.string wds, .int .i64 0]) ∧ Blk w' r c1.cells 31 ∧ Chg (fun k => k = r) w w') :
    Calls Tryz.prog 21 #[.pointer (some ⟨r, 0, none⟩), .string rest, .bool has] w fun e w' => e = .returned (.int .i64 2) ∧ Blk w' r c1.cells 31 ∧ Chg (fun k => k = r) w w' := by
  go_enter Tryz.func21, Tryz.ntmps21
  go_wp2_with (first | (go_at_call 63; (with_reducible refine hwh.mono ?_); rintro e w1 ⟨rfl, hb1, hc1⟩; have B1 := Aside.mk hb1; have C1 := Aside.mk hc1; clear hb1 hc1; have z2 := Blk.cell B1.out 2 (.string (Cm.tx c1.lo)) rfl; have z3 := Blk.cell B1.out 3 (.string (Cm.tx c1.dm)) rfl) | (go_at_call 15; (with_reducible refine (hnu _).mono ?_); rintro e w3 ⟨rfl, hb3⟩; replace C1 := Aside.mk (C1.out.trans (Chg.ofBelow hb3 (fun k => k = r)) (fun _ _ q => q)); replace B1 := Aside.mk (Blk.below B1.out hb3); clear hb3 z2 z3))
  go_ret
  exact ⟨rfl, B1.out, C1.out⟩
set_option maxHeartbeats 4000000 in
theorem to_c (r : Nat) (c c1 : Cm.Cmd) (rest wds : ByteArray) (has : Bool) (hnu : ∀ W, Calls Tryz.prog 15 #[.agg #[.string (Cm.tx c1.lo), .string (Cm.tx c1.dm)]] W fun e w' => e = .returned (.bool false) ∧ Below W.heap.size W w') (m : Rc) (f : Int) (hpr : ∀ W, Lv W → Calls Tryz.prog 14 #[.string wds] W fun e w' => e = .returned (.tuple #[.agg m.cells, .int .i64 f]) ∧ Below W.heap.size W w')  (w : World) (hlv : ∀ W, Chg (fun k => k = r) w W → Lv W) (hb : Blk w r c.cells 31)
    (hwh : Calls Tryz.prog 63 #[.pointer (some ⟨r, 0, none⟩), .string rest, .string ⟨#[84, 79, 58]⟩] w fun e w' => e = .returned (.tuple #[.string wds, .int .i64 0]) ∧ Blk w' r c1.cells 31 ∧ Chg (fun k => k = r) w w') :
    Calls Tryz.prog 21 #[.pointer (some ⟨r, 0, none⟩), .string rest, .bool has] w fun e w' => e = .returned (.int .i64 f) ∧ Blk w' r ({ c1 with rc := m } : Cm.Cmd).cells 31 ∧ Chg (fun k => k = r) w w' := by
  go_enter Tryz.func21, Tryz.ntmps21
  go_wp2_with (first | (go_at_call 63; (with_reducible refine hwh.mono ?_); rintro e w1 ⟨rfl, hb1, hc1⟩; have B1 := Aside.mk hb1; have C1 := Aside.mk hc1; clear hb1 hc1; have z2 := Blk.cell B1.out 2 (.string (Cm.tx c1.lo)) rfl; have z3 := Blk.cell B1.out 3 (.string (Cm.tx c1.dm)) rfl) | (go_at_call 15; (with_reducible refine (hnu _).mono ?_); rintro e w3 ⟨rfl, hb3⟩; replace C1 := Aside.mk (C1.out.trans (Chg.ofBelow hb3 (fun k => k = r)) (fun _ _ q => q)); replace B1 := Aside.mk (Blk.below B1.out hb3); clear hb3 z2 z3) | (go_at_call 14; (with_reducible refine (hpr _ (hlv _ C1.out)).mono ?_); rintro e w2 ⟨rfl, hb2⟩; have L2 := Aside.mk hb2; have B1' := Aside.mk (Blk.below B1.out hb2); clear hb2) | ((with_reducible refine at_store (p := 33) rfl ?_); refine store_off rfl 29 _ _ (by rfl) r 18 (by rfl) c1.cells m.cells 31 B1'.out (by rfl) (show 18 + 3 ≤ 21 by decide) (by kernel_rfl) (rc_ones _) ?_; intro w5 hb5 hc5; have B2 := Aside.mk hb5; have C2 := Aside.mk (C1.out.trans (Chg.ofBelow L2.out (fun k => k = r)) (fun _ _ q => q) |>.trans hc5 (fun _ _ q => q)); clear hb5 hc5))
  go_ret
  exact ⟨rfl, by have := B2.out; rw [cmd_rc] at this; exact this, C2.out⟩
end Go.Proofs.YtllhbcpbihhdnaaGreatDoor
end
section
set_option linter.unusedVariables false
set_option linter.unusedSimpArgs false
namespace Go.Proofs.YtllhbcpbihhdnaaGreatDoor
open Go.RowKit Go.Shelf Pm
set_option maxRecDepth 100000
theorem cut_behind (c : UInt8) : ∀ l : List UInt8, (Tok.cut c l).2.1.length ≤ l.length
  | [] => by simp [Tok.cut]
  | x :: l => by
    unfold Tok.cut
    by_cases hx : x = c
    · rw [if_pos hx]; simp
    · rw [if_neg hx]
      have := cut_behind c l
      simp only [List.length_cons]; omega
theorem behind_len (lo rest : List UInt8) : (Pt.behind lo rest).2.1.length ≤ rest.length := by
  have h := cut_behind 62 rest
  unfold Pt.behind
  split
  · exact Nat.zero_le _
  · split
    · split
      · exact Nat.zero_le _
      · split
        · exact Nat.zero_le _
        · exact h
    · exact Nat.zero_le _
theorem qrun_tail : ∀ (n : Nat) (q acc : List UInt8) (lo r : List UInt8), q.length ≤ n → Pt.qrun q acc = some (lo, r) → r.length ≤ q.length
  | _, [], acc, lo, r, hn, h => by rw [Pt.qrun] at h; cases h
  | 0, x :: l, acc, lo, r, hn, h => by simp at hn
  | n + 1, [c], acc, lo, r, hn, h => by
    rw [Pt.qrun] at h
    split at h
    · cases h; exact Nat.zero_le _
    · cases h
  | n + 1, c :: d :: l, acc, lo, r, hn, h => by
    rw [Pt.qrun] at h
    simp only [List.length_cons] at hn ⊢
    split at h
    · cases h; simp
    · split at h
      · split at h
        · have := qrun_tail n l _ lo r (by omega) h; omega
        · cases h
      · split at h
        · have := qrun_tail n (d :: l) _ lo r (by simp only [List.length_cons]; omega) h
          simp only [List.length_cons] at this; omega
        · cases h
theorem plainly_len (t : List UInt8) : (Pt.plainly t).2.1.length ≤ t.length := by
  have hd : (t.drop (Lib.indexAny t [64, 62]).toNat).length ≤ t.length := by simp
  unfold Pt.plainly
  split
  · exact Nat.zero_le _
  · split
    · rename_i b hb
      rw [hb] at hd
      split
      · exact Nat.zero_le _
      · simp only [List.length_cons] at hd; dsimp only; omega
    · exact Nat.le_trans (behind_len _ _) hd
theorem parse_len (s : List UInt8) : (Pt.parse s).2.1.length ≤ s.length := by
  unfold Pt.parse
  split
  · simp only [List.length_cons]; omega
  · rename_i q
    unfold Pt.quoted
    split
    · rename_i lo rest hq
      have := qrun_tail _ _ _ _ _ (Nat.le_refl _) hq
      split
      · exact Nat.zero_le _
      · have := behind_len lo rest
        simp only [List.length_cons]; omega
    · exact Nat.zero_le _
  · rename_i t _ _
    have := plainly_len t
    simp only [List.length_cons]; omega
  · exact Nat.zero_le _
theorem wh_size (rest word : List UInt8) : (Cm.wh rest word).2.1.length ≤ rest.length := by
  unfold Cm.wh
  by_cases h0 : rest.length < word.length ∨ Txt.upper (rest.take word.length) ≠ word
  · rw [if_pos h0]; exact Nat.zero_le _
  rw [if_neg h0]
  by_cases h1 : (Pt.parse (rest.drop word.length)).2.2 ≠ 0
  · rw [if_pos h1]; exact Nat.zero_le _
  rw [if_neg h1]
  have h2 : (Pt.parse (rest.drop word.length)).2.1.length ≤ rest.length := by
    have := parse_len (rest.drop word.length)
    simp only [List.length_drop] at this; omega
  split
  · exact Nat.zero_le _
  · rename_i x w hq
    rw [hq] at h2
    simp at h2 ⊢; omega
  · exact Nat.zero_le _
theorem tx_empty (l : List UInt8) : (Cm.tx l).toList.isEmpty = l.isEmpty := by
  rw [show (Cm.tx l).toList = l from by rw [ByteArray.toList_eq]; exact Cm.tx_data l]
/-- from: what it makes of the command. -/
theorem from_m (w0 : World) (hw0 : Lv w0) (r : Nat) (hr : w0.heap.size ≤ r) (c : Cm.Cmd) (rest : ByteArray) (hz : rest.size ≤ 100000) (has : Bool) (w : World) (hw : Below w0.heap.size w0 w) (hb : Blk w r c.cells 31) :
    Calls Tryz.prog 20 #[.pointer (some ⟨r, 0, none⟩), .string rest, .bool has] w fun e w' => e = .returned (.int .i64 (Cm.stFrom c rest.data.toList has).2) ∧ Blk w' r (Cm.stFrom c rest.data.toList has).1.cells 31 ∧ Chg (fun k => k = r) w w' := by
  have hlv : ∀ W, Chg (fun k => k = r) w W → Lv W := fun W h => hw0.next (h.below hw (fun k q => q ▸ hr) hw.size)
  have hwh := where_m r c rest ⟨#[70, 82, 79, 77, 58]⟩ hz (by decide) w (hlv w (Chg.refl _ _)) hb
  have hsz := wh_size rest.data.toList Cm.kFrom
  have hpm : ∀ W, Lv W → Calls Tryz.prog 13 #[.string (Cm.tx (Cm.wh rest.data.toList Cm.kFrom).2.1)] W fun e w' => e = .returned (.tuple #[.agg (Pm.parseMail (Cm.tx (Cm.wh rest.data.toList Cm.kFrom).2.1)).1.cells, .int .i64 (Pm.parseMail (Cm.tx (Cm.wh rest.data.toList Cm.kFrom).2.1)).2]) ∧ Below W.heap.size W w' :=
    fun W hl => parseMail_any _ (by rw [Cm.tx_size]; have : rest.data.toList.length = rest.size := by simp
                                    omega) W hl
  change Calls _ _ _ _ fun e w' => e = .returned (.tuple #[.string (Cm.tx (Cm.wh rest.data.toList Cm.kFrom).2.1), .int .i64 (Cm.wh rest.data.toList Cm.kFrom).2.2]) ∧ Blk w' r (whCmd c rest.data.toList Cm.kFrom).cells _ ∧ Chg (fun k => k = r) w w' at hwh
  unfold Cm.stFrom
  unfold whCmd at hwh
  obtain ⟨⟨⟨lo, dm⟩, wds, ee⟩, hv⟩ : ∃ q, Cm.wh rest.data.toList Cm.kFrom = q := ⟨_, rfl⟩
  rw [hv] at hwh hpm ⊢
  dsimp only at hwh hpm ⊢
  by_cases h0 : ee = 0
  · subst h0
    rw [if_pos rfl] at hwh
    rw [if_neg (by simp)]
    by_cases h1 : dm = []
    · subst h1
      by_cases h2 : lo = []
      · subst h2
        rw [if_neg (by simp)]
        exact from_d r c { c with lo := [], dm := [] } rest (Cm.tx wds) has (by rw [tx_empty]; rfl) (by rw [tx_empty]; rfl) _ _ hpm w hlv hb hwh
      · rw [if_pos ⟨rfl, h2⟩]
        exact from_b r c { c with lo := lo, dm := [] } rest (Cm.tx wds) has (by rw [tx_empty]; rfl) (by rw [tx_empty]; cases lo with | nil => exact absurd rfl h2 | cons => rfl) w hlv hb hwh
    · rw [if_neg (by simp [h1])]
      exact from_c r c { c with lo := lo, dm := dm } rest (Cm.tx wds) has (by rw [tx_empty]; cases dm with | nil => exact absurd rfl h1 | cons => rfl) _ _ hpm w hlv hb hwh
  · rw [if_neg h0] at hwh
    rw [if_pos h0]
    exact from_a r c c rest (Cm.tx wds) has ee (by simpa using h0) (by simpa using h0) w hlv hb hwh
/-- to: what it makes of the command. -/
theorem to_m (w0 : World) (hw0 : Lv w0) (r : Nat) (hr : w0.heap.size ≤ r) (c : Cm.Cmd) (rest : ByteArray) (hz : rest.size ≤ 100000) (has : Bool) (w : World) (hw : Below w0.heap.size w0 w) (hb : Blk w r c.cells 31) :
    Calls Tryz.prog 21 #[.pointer (some ⟨r, 0, none⟩), .string rest, .bool has] w fun e w' => e = .returned (.int .i64 (Cm.stTo c rest.data.toList has).2) ∧ Blk w' r (Cm.stTo c rest.data.toList has).1.cells 31 ∧ Chg (fun k => k = r) w w' := by
  have hlv : ∀ W, Chg (fun k => k = r) w W → Lv W := fun W h => hw0.next (h.below hw (fun k q => q ▸ hr) hw.size)
  have hwh := where_m r c rest ⟨#[84, 79, 58]⟩ hz (by decide) w (hlv w (Chg.refl _ _)) hb
  have hsz := wh_size rest.data.toList Cm.kTo
  have hpr : ∀ W, Lv W → Calls Tryz.prog 14 #[.string (Cm.tx (Cm.wh rest.data.toList Cm.kTo).2.1)] W fun e w' => e = .returned (.tuple #[.agg (Pm.parseRcpt (Cm.tx (Cm.wh rest.data.toList Cm.kTo).2.1)).1.cells, .int .i64 (Pm.parseRcpt (Cm.tx (Cm.wh rest.data.toList Cm.kTo).2.1)).2]) ∧ Below W.heap.size W w' :=
    fun W hl => parseRcpt_any _ (by rw [Cm.tx_size]; have : rest.data.toList.length = rest.size := by simp
                                    omega) W hl
  change Calls _ _ _ _ fun e w' => e = .returned (.tuple #[.string (Cm.tx (Cm.wh rest.data.toList Cm.kTo).2.1), .int .i64 (Cm.wh rest.data.toList Cm.kTo).2.2]) ∧ Blk w' r (whCmd c rest.data.toList Cm.kTo).cells _ ∧ Chg (fun k => k = r) w w' at hwh
  unfold Cm.stTo
  unfold whCmd at hwh
  obtain ⟨⟨⟨lo, dm⟩, wds, ee⟩, hv⟩ : ∃ q, Cm.wh rest.data.toList Cm.kTo = q := ⟨_, rfl⟩
  rw [hv] at hwh hpr ⊢
  dsimp only at hwh hpr ⊢
  have hnu := fun W => pathNull_any (Cm.tx lo) (Cm.tx dm) W
  simp only [tx_empty] at hnu
  by_cases h0 : ee = 0
  · subst h0
    rw [if_pos rfl] at hwh
    rw [if_neg (by simp)]
    by_cases h1 : dm = [] ∧ lo = []
    · obtain ⟨rfl, rfl⟩ := h1
      rw [if_pos ⟨rfl, rfl⟩]
      exact to_b r c { c with lo := [], dm := [] } rest (Cm.tx wds) has hnu w hlv hb hwh
    · rw [if_neg h1]
      have hf : (lo.isEmpty && dm.isEmpty) = false := by
        cases lo with
        | nil => cases dm with
          | nil => exact absurd ⟨rfl, rfl⟩ h1
          | cons => rfl
        | cons => rfl
      rw [hf] at hnu
      exact to_c r c { c with lo := lo, dm := dm } rest (Cm.tx wds) has hnu _ _ hpr w hlv hb hwh
  · rw [if_neg h0] at hwh
    rw [if_pos h0]
    exact to_a r c c rest (Cm.tx wds) has ee (by simpa using h0) (by simpa using h0) w hlv hb hwh
end Go.Proofs.YtllhbcpbihhdnaaGreatDoor
end
section
set_option linter.unusedVariables false
set_option linter.unusedSimpArgs false
namespace Go.Proofs.YtllhbcpbihhdnaaGreatDoor
open Go.RowKit Go.Shelf Pm
set_option maxRecDepth 100000
section
variable {P : Program} {ops : Array Oper} {rest : List Oper} {o : Oper} {a : Act} {w : World} {Q : Exit → Act → World → Prop}
/-- A call of a function value that holds no cells. -/
theorem step_callv (hgd : o.guard = none) (t x1 x2 x3 : Operand) (tys : Array TypeId) (ho : o.op = .call { callee := .value t, args := #[x1, x2, x3], argTypes := tys }) (g : Nat) (ht : a.eval t = .func (.func g) #[] #[])
    (eg : Enters P g) (v1 v2 v3 : Value) (h1 : a.eval x1 = v1) (h2 : a.eval x2 = v2) (h3 : a.eval x3 = v3) (R : Ending → World → Prop) (hc : Calls P g #[v1, v2, v3] w R)
    (hR : ∀ e w', R e w' → ∃ v, e = .returned v ∧ wpList P ops Q rest (a.put o.dst v) w') : wpList P ops Q (o :: rest) a w := by
  refine wpList_plain hgd fun K hK => ?_
  unfold Oper.wp
  have eg' := eg #[v1, v2, v3] w
  simp [execOp, ho, resolve, Deferred.ofValue, ht, invoke, h1, h2, h3, Result.andThen] at eg' ⊢
  rw [eg']
  refine hc.mono ?_
  intro e w' hr
  obtain ⟨v, rfl, h⟩ := hR e w' hr
  exact hK _ _ h
end
def vKey (v : List UInt8) (g : Nat) : Key Unit := ⟨Cm.tx v, g, #[], fun _ s => (s, 0)⟩
def vKeys : List (Key Unit) := [vKey Cm.vHELO 19, vKey Cm.vEHLO 19, vKey Cm.vMAIL 20, vKey Cm.vRCPT 21, vKey Cm.vDATA 22, vKey Cm.vRSET 22, vKey Cm.vQUIT 22, vKey Cm.vNOOP 23, vKey Cm.vVRFY 23, vKey Cm.vHELP 23]
/-- What a method does with a command. -/
def Meth (g : Nat) (f : Cm.Cmd → List UInt8 → Bool → Cm.Cmd × Int) : Prop := Enters Tryz.prog g ∧ ∀ (w0 : World) (hw0 : Lv w0) (r : Nat) (hr : w0.heap.size ≤ r) (c : Cm.Cmd) (rest : ByteArray) (hz : rest.size ≤ 100000) (has : Bool) (w : World) (hw : Below w0.heap.size w0 w) (hb : Blk w r c.cells 31),
    Calls Tryz.prog g #[.pointer (some ⟨r, 0, none⟩), .string rest, .bool has] w fun e w' => e = .returned (.int .i64 (f c rest.data.toList has).2) ∧ Blk w' r (f c rest.data.toList has).1.cells 31 ∧ Chg (fun k => k = r) w w'
theorem meth_dom : Meth 19 Cm.stDom := ⟨enters_of Tryz.func19 (by kernel_rfl) rfl, fun w0 hw0 r hr c rest hz has w hw hb => domain_m r c rest has w hb⟩
theorem meth_none : Meth 22 Cm.stNone := ⟨enters_of Tryz.func22 (by kernel_rfl) rfl, fun w0 hw0 r hr c rest hz has w hw hb => none_m r c rest has w hb⟩
theorem meth_text : Meth 23 Cm.stText := ⟨enters_of Tryz.func23 (by kernel_rfl) rfl, fun w0 hw0 r hr c rest hz has w hw hb => text_m r c rest hz has w hb⟩
theorem meth_from : Meth 20 Cm.stFrom := ⟨enters_of Tryz.func20 (by kernel_rfl) rfl, from_m⟩
theorem meth_to : Meth 21 Cm.stTo := ⟨enters_of Tryz.func21 (by kernel_rfl) rfl, to_m⟩
theorem meth_of {v : List UInt8} {f : Cm.Cmd → List UInt8 → Bool → Cm.Cmd × Int} (h : Cm.does v = some f) : ∃ g, findK vKeys (Cm.tx v) = some (vKey v g) ∧ Meth g f := by
  rcases Cm.does_inv h with ⟨rfl | rfl, rfl⟩ | ⟨rfl, rfl⟩ | ⟨rfl, rfl⟩ | ⟨rfl | rfl | rfl, rfl⟩ | ⟨rfl | rfl | rfl, rfl⟩
  · exact ⟨_, rfl, meth_dom⟩
  · exact ⟨_, rfl, meth_dom⟩
  · exact ⟨_, rfl, meth_from⟩
  · exact ⟨_, rfl, meth_to⟩
  · exact ⟨_, rfl, meth_none⟩
  · exact ⟨_, rfl, meth_none⟩
  · exact ⟨_, rfl, meth_none⟩
  · exact ⟨_, rfl, meth_text⟩
  · exact ⟨_, rfl, meth_text⟩
  · exact ⟨_, rfl, meth_text⟩
theorem no_meth {v : List UInt8} (h : Cm.does v = none) : findK vKeys (Cm.tx v) = none := by
  have hn := Cm.does_none.1 h
  simp only [Cm.verbs, List.mem_cons, List.not_mem_nil, or_false, not_or] at hn
  obtain ⟨h0, h1, h2, h3, h4, h5, h6, h7, h8, h9⟩ := hn
  have hk : ∀ {x : List UInt8}, v ≠ x → decide (Cm.tx x = Cm.tx v) = false := fun hx => decide_eq_false fun q => hx (Cm.tx_inj q).symm
  unfold findK vKeys
  simp only [List.find?_cons, vKey, hk h0, hk h1, hk h2, hk h3, hk h4, hk h5, hk h6, hk h7, hk h8, hk h9, List.find?_nil]
theorem verb_some {W : World} {r c : Nat} (hb : W.heap[r]? = some (.map (keyEnts 0 vKeys).toArray c)) {v : List UInt8} {g : Nat} (h : findK vKeys (Cm.tx v) = some (vKey v g)) :
    (Instr.lookup 57 (.map (some r)) (.string (Cm.tx v)) true).run Tryz.prog W = .ok (.tuple #[.func (.func g) #[] #[], .bool true]) W := by
  obtain ⟨p, hp⟩ := find_ents (Cm.tx v) vKeys 0 0
  rw [h] at hp
  exact lookup_str_ok (P := Tryz.prog) Tryz.underlying57 Tryz.underlying9 hb (Cm.tx v) p (vKey v g).val (by simpa using hp)
theorem verb_none {W : World} {r c : Nat} (hb : W.heap[r]? = some (.map (keyEnts 0 vKeys).toArray c)) {v : List UInt8} (h : findK vKeys (Cm.tx v) = none) :
    (Instr.lookup 57 (.map (some r)) (.string (Cm.tx v)) true).run Tryz.prog W = .ok (.tuple #[.nilFunc, .bool false]) W := by
  obtain ⟨p, hp⟩ := find_ents (Cm.tx v) vKeys 0 0
  rw [h] at hp
  exact lookup_str_none (P := Tryz.prog) Tryz.underlying57 Tryz.underlying9 hb (Cm.tx v) .nilFunc (Tryz.zeroValue54 _) (by simpa using hp)
end Go.Proofs.YtllhbcpbihhdnaaGreatDoor
end
section
set_option linter.unusedVariables false
set_option linter.unusedSimpArgs false
namespace Go.Proofs.YtllhbcpbihhdnaaGreatDoor
open Go.RowKit Go.Shelf Pm
set_option maxRecDepth 100000
theorem cmd_one (c : Cm.Cmd) : c.cells.all (·.oneCell') = true := by unfold Cm.Cmd.cells; simp [Value.oneCell']
/-- In Parse: its result, its map. -/
structure CPs (w : World) (H : Nat) (es : List MapEntry) (c : Nat) (W : World) : Prop where
  low : Below H w W
  size : H + 2 ≤ W.heap.size
  res : Blk W H Cm.Cmd.zero.cells 31
  map : W.heap[H + 1]? = some (.map es.toArray c)
variable {w : World} {H : Nat} {es es' : List MapEntry} {c c' : Nat} {W W' : World}
theorem CPs.put (h : CPs w H es c W) (hm : W'.heap[H + 1]? = some (.map es'.toArray c')) (k : Chg (fun i => i = H + 1) W W') : CPs w H es' c' W' :=
  ⟨k.below h.low (fun i q => by omega) (by have := h.size; omega), Nat.le_trans h.size k.size, h.res.chg k (by omega), hm⟩
theorem CPs.chg (h : CPs w H es c W) {R : Nat} (k : Chg (fun i => i = R) W W') (hR : H + 2 ≤ R) : CPs w H es c W' :=
  ⟨k.below h.low (fun i q => by omega) (by have := h.size; omega), Nat.le_trans h.size k.size, h.res.chg k (by omega), k.at h.map (by omega)⟩
theorem CPs.next (h : CPs w H es c W) (k : Below W.heap.size W W') : CPs w H es c W' := h.chg (R := W.heap.size) (Chg.ofBelow k _) h.size
theorem CPs.alloc (h : CPs w H es c W) (x : Obj) : CPs w H es c (W.alloc x) := h.next (Below.refl _ _ |>.alloc (Nat.le_refl _) x)
theorem CPs.lv (h : CPs w H es c W) {w0 : World} (hw : w0 = w) (hl : Lv w0) (hH : w.heap.size = H) : Lv W := by subst hw; exact hl.next (hH ▸ h.low)
set_option maxHeartbeats 8000000 in
theorem commandParse_any (s : ByteArray) (hs : s.size ≤ 100000) (w : World) (hl : Lv w) :
    Calls Tryz.prog 9 #[.string s] w fun e w' => e = .returned (.tuple #[.agg (Cm.parse s.data.toList).1.cells, .int .i64 (Cm.parse s.data.toList).2]) ∧ Below w.heap.size w w' := by
  obtain ⟨H, hH⟩ : ∃ H, w.heap.size = H := ⟨_, rfl⟩
  have htr := fun W => Tryz.strings_TrimRight_one s 32 (by decide) W (by omega)
  have htl : (Cm.trimR s.data.toList).length ≤ 100000 := by
    have : (Cm.trimR s.data.toList).length ≤ s.data.toList.length := by
      unfold Cm.trimR Go.Lib.trimRightB
      rw [List.length_reverse]
      exact Nat.le_trans (List.dropWhile_sublist _).length_le (by simp)
    have : s.data.toList.length = s.size := by simp
    omega
  change ∀ W, Calls _ _ _ W fun e w' => e = .returned (.string (Cm.tx (Cm.trimR s.data.toList))) ∧ w' = W at htr
  unfold Cm.parse
  obtain ⟨l, hl2⟩ : ∃ l, Cm.trimR s.data.toList = l := ⟨_, rfl⟩
  rw [hl2] at htr htl ⊢
  clear hl2 hs
  obtain ⟨pr, hpr⟩ : ∃ p, Cm.run l = p := ⟨_, rfl⟩
  rw [hpr]
  obtain ⟨w0, hw0⟩ : ∃ x, x = w := ⟨_, rfl⟩
  have hl0 : Aside (Lv w0) := ⟨hw0 ▸ hl⟩
  have hmm := @run_makeMap Tryz.prog
  have B0 : CPs w H [] 0 ((w.alloc (.cells Cm.Cmd.zero.cells 31)).alloc (.map #[] 0)) := by
    subst hH
    exact ⟨(Below.refl _ _ |>.alloc (Nat.le_refl _) _).alloc (by simp) _, by simp, (Blk.new _ _).old _, heap_at (by simp) _⟩
  clear hl
  rw [hH]
  go_enter Tryz.func9, Tryz.ntmps9
  go_wp2_with (first | (go_at_call 18; (with_reducible refine (htr _).mono ?_); rintro e w1 ⟨rfl, hb1⟩; subst hb1; clear htr) | (refine insert_map rfl 57 9 54 Tryz.underlying57 Tryz.underlying9 _ _ _ (by rfl) (H + 1) (by rfl) ⟨#[72, 69, 76, 79]⟩ (by rfl) (vKeys[0]'(by decide)).val (by rfl) (keyEnts 0 (vKeys.take 0)) 0 (heap_at (by simp [hH]) _) (by rfl) ?_; intro w_ hm_ hc_ hs_; have M := Aside.mk (B0.put hm_ hc_); clear hm_ hc_ hs_ hmm) | (refine insert_map rfl 57 9 54 Tryz.underlying57 Tryz.underlying9 _ _ _ (by rfl) (H + 1) (by rfl) ⟨#[69, 72, 76, 79]⟩ (by rfl) (vKeys[1]'(by decide)).val (by rfl) (keyEnts 0 (vKeys.take 1)) 1 M.out.map (by rfl) ?_; intro w_ hm_ hc_ hs_; replace M := Aside.mk (M.out.put hm_ hc_); clear hm_ hc_ hs_) | (refine insert_map rfl 57 9 54 Tryz.underlying57 Tryz.underlying9 _ _ _ (by rfl) (H + 1) (by rfl) ⟨#[77, 65, 73, 76]⟩ (by rfl) (vKeys[2]'(by decide)).val (by rfl) (keyEnts 0 (vKeys.take 2)) 2 M.out.map (by rfl) ?_; intro w_ hm_ hc_ hs_; replace M := Aside.mk (M.out.put hm_ hc_); clear hm_ hc_ hs_) | (refine insert_map rfl 57 9 54 Tryz.underlying57 Tryz.underlying9 _ _ _ (by rfl) (H + 1) (by rfl) ⟨#[82, 67, 80, 84]⟩ (by rfl) (vKeys[3]'(by decide)).val (by rfl) (keyEnts 0 (vKeys.take 3)) 3 M.out.map (by rfl) ?_; intro w_ hm_ hc_ hs_; replace M := Aside.mk (M.out.put hm_ hc_); clear hm_ hc_ hs_) | (refine insert_map rfl 57 9 54 Tryz.underlying57 Tryz.underlying9 _ _ _ (by rfl) (H + 1) (by rfl) ⟨#[68, 65, 84, 65]⟩ (by rfl) (vKeys[4]'(by decide)).val (by rfl) (keyEnts 0 (vKeys.take 4)) 4 M.out.map (by rfl) ?_; intro w_ hm_ hc_ hs_; replace M := Aside.mk (M.out.put hm_ hc_); clear hm_ hc_ hs_) | (refine insert_map rfl 57 9 54 Tryz.underlying57 Tryz.underlying9 _ _ _ (by rfl) (H + 1) (by rfl) ⟨#[82, 83, 69, 84]⟩ (by rfl) (vKeys[5]'(by decide)).val (by rfl) (keyEnts 0 (vKeys.take 5)) 5 M.out.map (by rfl) ?_; intro w_ hm_ hc_ hs_; replace M := Aside.mk (M.out.put hm_ hc_); clear hm_ hc_ hs_) | (refine insert_map rfl 57 9 54 Tryz.underlying57 Tryz.underlying9 _ _ _ (by rfl) (H + 1) (by rfl) ⟨#[81, 85, 73, 84]⟩ (by rfl) (vKeys[6]'(by decide)).val (by rfl) (keyEnts 0 (vKeys.take 6)) 6 M.out.map (by rfl) ?_; intro w_ hm_ hc_ hs_; replace M := Aside.mk (M.out.put hm_ hc_); clear hm_ hc_ hs_) | (refine insert_map rfl 57 9 54 Tryz.underlying57 Tryz.underlying9 _ _ _ (by rfl) (H + 1) (by rfl) ⟨#[78, 79, 79, 80]⟩ (by rfl) (vKeys[7]'(by decide)).val (by rfl) (keyEnts 0 (vKeys.take 7)) 7 M.out.map (by rfl) ?_; intro w_ hm_ hc_ hs_; replace M := Aside.mk (M.out.put hm_ hc_); clear hm_ hc_ hs_) | (refine insert_map rfl 57 9 54 Tryz.underlying57 Tryz.underlying9 _ _ _ (by rfl) (H + 1) (by rfl) ⟨#[86, 82, 70, 89]⟩ (by rfl) (vKeys[8]'(by decide)).val (by rfl) (keyEnts 0 (vKeys.take 8)) 8 M.out.map (by rfl) ?_; intro w_ hm_ hc_ hs_; replace M := Aside.mk (M.out.put hm_ hc_); clear hm_ hc_ hs_) | (refine insert_map rfl 57 9 54 Tryz.underlying57 Tryz.underlying9 _ _ _ (by rfl) (H + 1) (by rfl) ⟨#[72, 69, 76, 80]⟩ (by rfl) (vKeys[9]'(by decide)).val (by rfl) (keyEnts 0 (vKeys.take 9)) 9 M.out.map (by rfl) ?_; intro w_ hm_ hc_ hs_; replace M := Aside.mk (M.out.put hm_ hc_); clear hm_ hc_ hs_))
  have htk : l.length = (Cm.tx l).size := (Cm.tx_size l).symm
  refine (verb_any (Cm.tx l) (by omega) _ (M.out.lv hw0 hl0.out hH)).mono ?_
  rintro e w2 ⟨rfl, hb2⟩
  rw [Cm.tx_data]
  replace M := Aside.mk (M.out.next hb2)
  clear hb2
  obtain ⟨R, hR⟩ : ∃ R, w2.heap.size = R := ⟨_, rfl⟩
  have hRH : H + 2 ≤ R := hR ▸ M.out.size
  have hRw : w0.heap.size ≤ R := by rw [hw0, hH]; omega
  have PB : CPs w0 H _ _ w2 := hw0 ▸ M.out
  clear M
  unfold Cm.run at hpr
  obtain ⟨v, hv⟩ : ∃ v, Cm.verb l = v := ⟨_, rfl⟩
  rw [hv] at hpr ⊢
  have H0 : w0.heap.size = H := hw0 ▸ hH
  have HR := Aside.mk hR
  have hH0 := Aside.mk H0
  have HW := Aside.mk hw0
  clear hv hw0 hH hR H0
  cases hd : Cm.does v with
  | none =>
    rw [hd] at hpr
    have LK := fun {W : World} (h : W.heap[H + 1]? = some (.map (keyEnts 0 vKeys).toArray 10)) => verb_none h (no_meth hd)
    have HP : Aside ((Cm.Cmd.zero, (10 : Int)) = pr) := ⟨hpr⟩
    clear hpr hd
    have PA := Aside.mk (PB.alloc (.cells #[.string (Cm.tx v), .string { data := #[] }, .string { data := #[] }, .string { data := #[] }, .bool false, .bool false, .bool false, .bool false, .bool false, .int .i64 0, .int .i64 0, .int .i64 0, .int .i64 0, .int .i64 0, .string { data := #[] }, .string { data := #[] }, .string { data := #[] }, .string { data := #[] }, .string { data := #[] }, .string { data := #[] }, .string { data := #[] }] 31))
    have hl1 : (Instr.lookup 57 (.map (some (H + 1))) (.string (Cm.tx v)) true).run Tryz.prog (w2.alloc (.cells #[.string (Cm.tx v), .string { data := #[] }, .string { data := #[] }, .string { data := #[] }, .bool false, .bool false, .bool false, .bool false, .bool false, .int .i64 0, .int .i64 0, .int .i64 0, .int .i64 0, .int .i64 0, .string { data := #[] }, .string { data := #[] }, .string { data := #[] }, .string { data := #[] }, .string { data := #[] }, .string { data := #[] }, .string { data := #[] }] 31)) = .ok (.tuple #[.nilFunc, .bool false]) _ := LK PA.out.map
    clear LK PB
    go_wp2_with (first | ((with_reducible refine at_store (p := 5) rfl ?_); refine store_new rfl 31 _ _ Cm.Cmd.zero.cells #[.string (Cm.tx v), .string { data := #[] }, .string { data := #[] }, .string { data := #[] }, .bool false, .bool false, .bool false, .bool false, .bool false, .int .i64 0, .int .i64 0, .int .i64 0, .int .i64 0, .int .i64 0, .string { data := #[] }, .string { data := #[] }, .string { data := #[] }, .string { data := #[] }, .string { data := #[] }, .string { data := #[] }, .string { data := #[] }] (by rfl) w2.heap.size rfl (by rfl) (by rfl) (by kernel_rfl) (by rfl) (by simp [Value.oneCell']) ?_) | ((with_reducible refine at_store (p := 2) rfl ?_); refine store_blk rfl 31 _ _ (by rfl) H (by rfl) Cm.Cmd.zero.cells Cm.Cmd.zero.cells 31 PA.out.res (by rfl) (by rfl) (by kernel_rfl) (cmd_one _) ?_; intro w6 hb6 hc6; have PL := Aside.mk (hc6.below PA.out.low (fun i q => by omega) (Nat.le_of_lt PA.out.res.lt)); have BR := Aside.mk hb6; clear hb6 hc6))
    refine bodyPost_ret (results_blk rfl _ _ H rfl _ _ _ BR.out Tryz.underlying31 rfl (by kernel_rfl)) rfl ⟨by rw [← HP.out]; rfl, HW.out ▸ PL.out⟩
  | some f =>
    rw [hd] at hpr
    obtain ⟨g, hg, HM⟩ := meth_of hd
    have LK := fun {W : World} (h : W.heap[H + 1]? = some (.map (keyEnts 0 vKeys).toArray 10)) => verb_some h hg
    replace HM := Aside.mk HM
    obtain ⟨rt, ht, hrz, hcu, HC⟩ : ∃ rt ht, rt.length ≤ 100000 ∧ Aside (∀ W, Lv W → ∃ aa : ByteArray, Calls Tryz.prog 24 #[.string (Cm.tx l), .string ⟨#[32]⟩] W fun e w' => e = .returned (.tuple #[.string aa, .string (Cm.tx rt), .bool ht]) ∧ Below W.heap.size W w') ∧ Aside ((Tok.cut 32 l).2.1 = rt ∧ (Tok.cut 32 l).2.2 = ht) := by
      refine ⟨(Tok.cut 32 l).2.1, (Tok.cut 32 l).2.2, Nat.le_trans (cut_behind 32 l) htl, ⟨fun W hW => ⟨Cm.tx (Tok.cut 32 l).1, ?_⟩⟩, ⟨rfl, rfl⟩⟩
      have hcu := cut_any (Cm.tx l) ⟨#[32]⟩ W hW (by omega)
      have hcq := Tok.cut_eq 32 l
      change Calls _ _ _ W (fun e w' => e = .returned (.tuple #[.string ⟨(Lib.cut (Cm.tx l).data.toList [32]).1.toArray⟩, .string ⟨(Lib.cut (Cm.tx l).data.toList [32]).2.1.toArray⟩, .bool (Lib.cut (Cm.tx l).data.toList [32]).2.2]) ∧ _) at hcu
      rw [Cm.tx_data, hcq] at hcu
      exact hcu
    rw [HC.out.1, HC.out.2] at hpr
    change (if (f ⟨v, [], [], [], Ml.zero, Rc.zero⟩ rt ht).2 ≠ 0 then (Cm.Cmd.zero, (f ⟨v, [], [], [], Ml.zero, Rc.zero⟩ rt ht).2) else ((f ⟨v, [], [], [], Ml.zero, Rc.zero⟩ rt ht).1, (0 : Int))) = pr at hpr
    obtain ⟨q, hq⟩ : ∃ q, f ⟨v, [], [], [], Ml.zero, Rc.zero⟩ rt ht = q := ⟨_, rfl⟩
    rw [hq] at hpr
    have HM2 : Aside (∀ W, Below w0.heap.size w0 W → Blk W R (⟨v, [], [], [], Ml.zero, Rc.zero⟩ : Cm.Cmd).cells 31 → Calls Tryz.prog g #[.pointer (some ⟨R, 0, none⟩), .string (Cm.tx rt), .bool ht] W fun e w' => e = .returned (.int .i64 q.2) ∧ Blk w' R q.1.cells 31 ∧ Chg (fun k => k = R) W w') := by
      refine ⟨fun W hW hb => ?_⟩
      have := HM.out.2 w0 hl0.out R hRw ⟨v, [], [], [], Ml.zero, Rc.zero⟩ (Cm.tx rt) (by rw [Cm.tx_size]; exact hrz) ht W hW hb
      rw [Cm.tx_data, hq] at this
      exact this
    obtain ⟨c1, e1⟩ := q
    dsimp only at hpr HM2
    have EG := Aside.mk HM.out.1
    have HP := Aside.mk hpr
    clear hpr hq hd hg HM HC hrz
    have PA := Aside.mk (PB.alloc (.cells #[.string (Cm.tx v), .string { data := #[] }, .string { data := #[] }, .string { data := #[] }, .bool false, .bool false, .bool false, .bool false, .bool false, .int .i64 0, .int .i64 0, .int .i64 0, .int .i64 0, .int .i64 0, .string { data := #[] }, .string { data := #[] }, .string { data := #[] }, .string { data := #[] }, .string { data := #[] }, .string { data := #[] }, .string { data := #[] }] 31))
    have hl1 : (Instr.lookup 57 (.map (some (H + 1))) (.string (Cm.tx v)) true).run Tryz.prog (w2.alloc (.cells #[.string (Cm.tx v), .string { data := #[] }, .string { data := #[] }, .string { data := #[] }, .bool false, .bool false, .bool false, .bool false, .bool false, .int .i64 0, .int .i64 0, .int .i64 0, .int .i64 0, .int .i64 0, .string { data := #[] }, .string { data := #[] }, .string { data := #[] }, .string { data := #[] }, .string { data := #[] }, .string { data := #[] }, .string { data := #[] }] 31)) = .ok (.tuple #[.func (.func g) #[] #[], .bool true]) _ := LK PA.out.map
    have BC : Aside (Blk (w2.alloc (.cells #[.string (Cm.tx v), .string { data := #[] }, .string { data := #[] }, .string { data := #[] }, .bool false, .bool false, .bool false, .bool false, .bool false, .int .i64 0, .int .i64 0, .int .i64 0, .int .i64 0, .int .i64 0, .string { data := #[] }, .string { data := #[] }, .string { data := #[] }, .string { data := #[] }, .string { data := #[] }, .string { data := #[] }, .string { data := #[] }] 31)) R (⟨v, [], [], [], Ml.zero, Rc.zero⟩ : Cm.Cmd).cells 31) := ⟨HR.out ▸ Blk.new _ _⟩
    clear LK PB
    by_cases he : e1 = 0
    · subst he
      go_wp2_with (first | ((with_reducible refine at_store (p := 5) rfl ?_); refine store_new rfl 31 _ _ Cm.Cmd.zero.cells #[.string (Cm.tx v), .string { data := #[] }, .string { data := #[] }, .string { data := #[] }, .bool false, .bool false, .bool false, .bool false, .bool false, .int .i64 0, .int .i64 0, .int .i64 0, .int .i64 0, .int .i64 0, .string { data := #[] }, .string { data := #[] }, .string { data := #[] }, .string { data := #[] }, .string { data := #[] }, .string { data := #[] }, .string { data := #[] }] (by rfl) w2.heap.size rfl (by rfl) (by rfl) (by kernel_rfl) (by rfl) (by simp [Value.oneCell']) ?_) | (go_at_call 24; (obtain ⟨aa, hcu2⟩ := hcu.out _ (PA.out.lv rfl hl0.out hH0.out)); (with_reducible refine hcu2.mono ?_); rintro e w4 ⟨rfl, hb4⟩; replace PA := Aside.mk (PA.out.next hb4); replace BC := Aside.mk (Blk.below BC.out hb4); clear hcu2 hb4 hl1) | ((with_reducible refine at_dst (N := 38) rfl ?_); refine step_callv rfl (.tmp 35) (.tmp 5) (.tmp 36) (.tmp 37) _ rfl g (by rfl) EG.out (.pointer (some ⟨w2.heap.size, 0, none⟩)) (.string (Cm.tx rt)) (.bool ht) (by rfl) (by rfl) (by rfl) _ (HR.out ▸ HM2.out _ (hH0.out ▸ PA.out.low) BC.out) ?_; rintro e w5 ⟨rfl, hb5, hc5⟩; refine ⟨_, rfl, ?_⟩; replace PA := Aside.mk (PA.out.chg (HR.out ▸ hc5) hRH); replace BC := Aside.mk (HR.out ▸ hb5); clear hb5 hc5) | (refine load_blk rfl 31 _ (by rfl) w2.heap.size (by rfl) c1.cells 31 _ (HR.out ▸ BC.out) Tryz.underlying31 rfl (by kernel_rfl) ?_) | ((with_reducible refine at_store (p := 2) rfl ?_); refine store_blk rfl 31 _ _ (by rfl) H (by rfl) Cm.Cmd.zero.cells c1.cells 31 PA.out.res (by rfl) (by rfl) (by kernel_rfl) (cmd_one _) ?_; intro w6 hb6 hc6; have PL := Aside.mk (hc6.below PA.out.low (fun i q => by omega) (Nat.le_of_lt PA.out.res.lt)); have BR := Aside.mk hb6; clear hb6 hc6))
      refine bodyPost_ret (results_blk rfl _ _ H rfl _ _ _ BR.out Tryz.underlying31 rfl (by kernel_rfl)) rfl ⟨by rw [← HP.out]; rfl, HW.out ▸ PL.out⟩
    · have he2 : (e1 != 0) = true := by simpa using he
      have he3 : (e1 == 0) = false := by simpa using he
      rw [if_pos he] at HP
      clear he
      go_wp2_with (first | ((with_reducible refine at_store (p := 5) rfl ?_); refine store_new rfl 31 _ _ Cm.Cmd.zero.cells #[.string (Cm.tx v), .string { data := #[] }, .string { data := #[] }, .string { data := #[] }, .bool false, .bool false, .bool false, .bool false, .bool false, .int .i64 0, .int .i64 0, .int .i64 0, .int .i64 0, .int .i64 0, .string { data := #[] }, .string { data := #[] }, .string { data := #[] }, .string { data := #[] }, .string { data := #[] }, .string { data := #[] }, .string { data := #[] }] (by rfl) w2.heap.size rfl (by rfl) (by rfl) (by kernel_rfl) (by rfl) (by simp [Value.oneCell']) ?_) | (go_at_call 24; (obtain ⟨aa, hcu2⟩ := hcu.out _ (PA.out.lv rfl hl0.out hH0.out)); (with_reducible refine hcu2.mono ?_); rintro e w4 ⟨rfl, hb4⟩; replace PA := Aside.mk (PA.out.next hb4); replace BC := Aside.mk (Blk.below BC.out hb4); clear hcu2 hb4 hl1) | ((with_reducible refine at_dst (N := 38) rfl ?_); refine step_callv rfl (.tmp 35) (.tmp 5) (.tmp 36) (.tmp 37) _ rfl g (by rfl) EG.out (.pointer (some ⟨w2.heap.size, 0, none⟩)) (.string (Cm.tx rt)) (.bool ht) (by rfl) (by rfl) (by rfl) _ (HR.out ▸ HM2.out _ (hH0.out ▸ PA.out.low) BC.out) ?_; rintro e w5 ⟨rfl, hb5, hc5⟩; refine ⟨_, rfl, ?_⟩; replace PA := Aside.mk (PA.out.chg (HR.out ▸ hc5) hRH); replace BC := Aside.mk (HR.out ▸ hb5); clear hb5 hc5) | ((with_reducible refine at_store (p := 2) rfl ?_); refine store_blk rfl 31 _ _ (by rfl) H (by rfl) Cm.Cmd.zero.cells Cm.Cmd.zero.cells 31 PA.out.res (by rfl) (by rfl) (by kernel_rfl) (cmd_one _) ?_; intro w6 hb6 hc6; have PL := Aside.mk (hc6.below PA.out.low (fun i q => by omega) (Nat.le_of_lt PA.out.res.lt)); have BR := Aside.mk hb6; clear hb6 hc6))
      refine bodyPost_ret (results_blk rfl _ _ H rfl _ _ _ BR.out Tryz.underlying31 rfl (by kernel_rfl)) rfl ⟨by rw [← HP.out]; rfl, HW.out ▸ PL.out⟩
end Go.Proofs.YtllhbcpbihhdnaaGreatDoor
end
section
set_option linter.unusedVariables false
set_option linter.unusedSimpArgs false
namespace Pt
open Go.Lib
theorem qrun_ext (r : List UInt8) : ∀ (n : Nat) (q acc lo t : List UInt8), q.length ≤ n → qrun q acc = some (lo, t) → qrun (q ++ r) acc = some (lo, t ++ r)
  | _, [], acc, lo, t, _, h => by rw [qrun] at h; cases h
  | 0, x :: l, acc, lo, t, hn, h => by simp at hn
  | n + 1, [c], acc, lo, t, hn, h => by
    rw [qrun] at h
    split at h
    · rename_i hc
      cases h
      subst hc
      cases r with
      | nil => rfl
      | cons d r => show qrun (34 :: d :: r) acc = _; rw [qrun, if_pos rfl]; rfl
    · cases h
  | n + 1, c :: d :: l, acc, lo, t, hn, h => by
    rw [qrun] at h
    show qrun (c :: d :: (l ++ r)) acc = _
    rw [qrun]
    simp only [List.length_cons] at hn
    split at h
    · rename_i hc; cases h; rw [if_pos hc]; rfl
    · rename_i hc
      rw [if_neg hc]
      split at h
      · rename_i h2
        rw [if_pos h2]
        split at h
        · rename_i h3
          rw [if_pos h3]
          exact qrun_ext r n l _ lo t (by omega) h
        · cases h
      · rename_i h2
        rw [if_neg h2]
        split at h
        · rename_i h3
          rw [if_pos h3]
          exact qrun_ext r n (d :: l) _ lo t (by simp only [List.length_cons]; omega) h
        · cases h
theorem cut_ext {c : UInt8} (r : List UInt8) : ∀ l : List UInt8, (Tok.cut c l).2.2 = true → Tok.cut c (l ++ r) = ((Tok.cut c l).1, (Tok.cut c l).2.1 ++ r, true)
  | [], h => by cases h
  | x :: l, h => by
    unfold Tok.cut at h ⊢
    by_cases hx : x = c
    · simp [hx]
    · rw [if_neg hx] at h ⊢
      have := cut_ext r l h
      show (if x = c then _ else (x :: (Tok.cut c (l ++ r)).1, (Tok.cut c (l ++ r)).2.1, (Tok.cut c (l ++ r)).2.2)) = _
      rw [if_neg hx, this]
theorem behind_ext {lo rest t : List UInt8} {p : List UInt8 × List UInt8} (h : behind lo rest = (p, t, 0)) (r : List UInt8) : behind lo (rest ++ r) = (p, t ++ r, 0) := by
  unfold behind at h
  by_cases h0 : (Tok.cut 62 rest).2.2 = false
  · rw [if_pos h0] at h; cases h
  · rw [if_neg h0] at h
    have hc := cut_ext (c := 62) r rest (by simpa using h0)
    unfold behind
    rw [hc, if_neg (by simp)]
    try dsimp only
    revert h
    generalize (Tok.cut 62 rest).1 = a
    intro h
    split at h
    · rename_i dom
      try dsimp only
      split at h
      · cases h
      · rename_i h1
        rw [if_neg h1]
        split at h
        · cases h
        · rename_i h2
          rw [if_neg h2]
          cases h
          rfl
    · cases h
theorem plainly_ext {s t : List UInt8} {p : List UInt8 × List UInt8} (h : plainly s = (p, t, 0)) (r : List UInt8) : plainly (s ++ r) = (p, t ++ r, 0) := by
  unfold plainly at h
  by_cases h0 : indexAny s [64, 62] < 0 ∨ atoms (s.take (indexAny s [64, 62]).toNat) = false
  · rw [if_pos h0] at h; cases h
  · rw [if_neg h0] at h
    obtain ⟨k, hk⟩ : ∃ k : Nat, indexAny s [64, 62] = (k : Int) := ⟨(indexAny s [64, 62]).toNat, by
      have : ¬ indexAny s [64, 62] < 0 := fun q => h0 (.inl q)
      omega⟩
    obtain ⟨k1, k2, x, y, k3, k4⟩ := index_any_not hk
    have hs : s = s.take k ++ x :: y := by rw [← k3, List.take_append_drop]
    have hk2 : indexAny (s ++ r) [64, 62] = (k : Int) := by
      have := index_any (chars := [64, 62]) (l := s.take k) (r := y ++ r) k2 k4
      rw [show s.take k ++ x :: (y ++ r) = s ++ r by conv => rhs; rw [hs]
                                                     simp, List.length_take] at this
      rw [this]; omega
    unfold plainly
    rw [hk2]
    rw [hk] at h h0
    simp only [Int.toNat_natCast] at h h0 ⊢
    simp only [List.take_append_of_le_length (show k ≤ s.length by omega), List.drop_append_of_le_length (show k ≤ s.length by omega)]
    rw [if_neg h0]
    rw [k3] at h ⊢
    split at h
    · rename_i b heq
      simp only [List.cons.injEq] at heq
      obtain ⟨rfl, rfl⟩ := heq
      show (if _ then _ else _) = _
      split at h
      · cases h
      · rename_i h1
        cases h
        rw [if_neg h1]
        rfl
    · rename_i hne
      have hx : x ≠ 62 := fun e => hne y (by rw [e])
      have hb := behind_ext h r
      show (match x :: (y ++ r) with | 62 :: b => _ | rest => _) = _
      split
      · rename_i b heq
        simp only [List.cons.injEq] at heq
        exact absurd heq.1 hx
      · exact hb
theorem parse_ext {s t : List UInt8} {p : List UInt8 × List UInt8} (h : parse s = (p, t, 0)) (r : List UInt8) : parse (s ++ r) = (p, t ++ r, 0) := by
  unfold parse at h
  split at h
  · cases h; rfl
  · rename_i q
    show quoted (q ++ r) = _
    unfold quoted at h ⊢
    split at h
    · rename_i lo rest hq
      rw [qrun_ext r _ _ _ _ _ (Nat.le_refl _) hq]
      dsimp only
      split at h
      · cases h
      · rename_i hne
        rw [if_neg hne]
        exact behind_ext h r
    · cases h
  · rename_i t' n1 n2
    cases t' with
    | nil => cases h
    | cons x l =>
      have hp := plainly_ext h r
      show parse (60 :: x :: (l ++ r)) = _
      unfold parse
      split
      · rename_i heq; simp at heq; exact absurd (by rw [heq.1]) (n1 l)
      · rename_i heq; simp at heq; exact absurd (by rw [heq.1]) (n2 l)
      · rename_i heq; simp at heq; rw [← heq]; exact hp
      · rename_i k; exact absurd rfl (k _)
  · cases h
end Pt
namespace Go.Proofs.YtllhbcpbihhdnaaGreatDoor
open Go.RowKit Go.Shelf Pm
set_option maxRecDepth 100000
namespace Cm
-- ---- blanks
theorem trimR_split (l : List UInt8) : ∃ n, l = trimR l ++ List.replicate n 32 := by
  have h : l.reverse = l.reverse.takeWhile (· == 32) ++ l.reverse.dropWhile (· == 32) := (List.takeWhile_append_dropWhile ..).symm
  refine ⟨(l.reverse.takeWhile (· == 32)).length, ?_⟩
  have h2 : l.reverse.takeWhile (· == 32) = List.replicate (l.reverse.takeWhile (· == 32)).length 32 := List.eq_replicate_iff.2 ⟨rfl, fun b hb => by
    have := List.all_eq_true.1 (List.all_takeWhile (p := fun x : UInt8 => x == 32) (l := l.reverse)) b hb
    simpa using this⟩
  have h3 := congrArg List.reverse h
  rw [List.reverse_reverse, List.reverse_append] at h3
  unfold trimR Go.Lib.trimRightB
  conv => lhs; rw [h3]
  conv => lhs; rw [h2]
  rw [List.reverse_replicate]
theorem trimR_pre {v : List UInt8} (hn : v ≠ []) (hv : v.getLast? ≠ some 32) (t : List UInt8) : trimR (v ++ t) = v ++ trimR t := by
  obtain ⟨n, hs⟩ := trimR_split t
  conv => lhs; rw [hs, ← List.append_assoc, trimR_add]
  apply trimR_id
  rw [List.getLast?_append]
  cases hl : (trimR t).getLast? with
  | none => exact hv
  | some x => have := trimR_last t; rw [hl] at this; simpa using this
theorem cut_pre {c : UInt8} (t : List UInt8) : ∀ v : List UInt8, c ∉ v → Tok.cut c (v ++ t) = (v ++ (Tok.cut c t).1, (Tok.cut c t).2.1, (Tok.cut c t).2.2)
  | [], _ => rfl
  | x :: v, h => by
    simp only [List.mem_cons, not_or] at h
    show (if x = c then ([], v ++ t, true) else (x :: (Tok.cut c (v ++ t)).1, (Tok.cut c (v ++ t)).2.1, (Tok.cut c (v ++ t)).2.2)) = _
    rw [if_neg (fun e => h.1 e.symm), cut_pre t v h.2]
    rfl
theorem cut_rep (n : Nat) : ∀ T : List UInt8, (Tok.cut 32 (T ++ List.replicate n 32)).1 = (Tok.cut 32 T).1
  | [] => by
    cases n with
    | zero => rfl
    | succ n => rfl
  | x :: T => by
    show (if x = 32 then (([] : List UInt8), T ++ List.replicate n 32, true) else (x :: (Tok.cut 32 (T ++ List.replicate n 32)).1, (Tok.cut 32 (T ++ List.replicate n 32)).2.1, (Tok.cut 32 (T ++ List.replicate n 32)).2.2)).1 = (if x = 32 then (([] : List UInt8), T, true) else (x :: (Tok.cut 32 T).1, (Tok.cut 32 T).2.1, (Tok.cut 32 T).2.2)).1
    by_cases hx : x = 32
    · rw [if_pos hx, if_pos hx]
    · rw [if_neg hx, if_neg hx]
      show x :: _ = x :: _
      rw [cut_rep n T]
theorem verb_trim (s : List UInt8) : verb (trimR s) = verb s := by
  obtain ⟨n, hs⟩ := trimR_split s
  unfold verb
  conv => rhs; rw [hs, cut_rep]
/-- A tail of a line: nothing, or what begins with a blank; so it is with its blanks off. -/
theorem trim_tail (t : List UInt8) (h : t = [] ∨ ∃ a, t = 32 :: a) : (Tok.cut 32 (trimR t)).1 = [] := by
  obtain ⟨n, hs⟩ := trimR_split t
  have h2 := cut_rep n (trimR t)
  rw [← hs] at h2
  rw [← h2]
  rcases h with rfl | ⟨a, rfl⟩
  · rfl
  · rfl
/-- The same verb in other letters. -/
theorem parse_letters {v v' t : List UInt8} (h1 : 32 ∉ v) (h2 : 32 ∉ v') (n1 : v ≠ []) (n2 : v' ≠ []) (l1 : v.getLast? ≠ some 32) (l2 : v'.getLast? ≠ some 32) (hu : Txt.upper v' = Txt.upper v) (ht : t = [] ∨ ∃ a, t = 32 :: a) : parse (v' ++ t) = parse (v ++ t) := by
  unfold parse run verb
  rw [trimR_pre n1 l1, trimR_pre n2 l2, cut_pre _ v h1, cut_pre _ v' h2, trim_tail t ht, List.append_nil, List.append_nil, hu]
def kfrom : List UInt8 := [102, 114, 111, 109, 58]
def kto : List UInt8 := [116, 111, 58]
/-- A line in small letters: its verb; FROM and TO. -/
noncomputable def lowered (c : Cmd) : List UInt8 := c.verb.map (· + 32) ++ (
  if c.verb = vMAIL then 32 :: (kfrom ++ (line c).1.drop 10) else if c.verb = vRCPT then 32 :: (kto ++ (line c).1.drop 8) else (line c).1.drop 4)
theorem parse_lowered {c : Cmd} (h : (line c).2 = 0) : parse (lowered c) = (c, 0) := by
  obtain ⟨hv, h1 | h1 | h1⟩ := line_cases h
  · obtain ⟨k1, k2, k3, k4, k5, k6, k7⟩ := h1
    unfold lowered
    rw [k7, if_pos k1, k1]
    have e : (vMAIL ++ 32 :: (kFrom ++ plain (Pt.text c.lo c.dm) c.ml.text.data.toList)).drop 10 = plain (Pt.text c.lo c.dm) c.ml.text.data.toList := rfl
    rw [e]
    have hl := last_plain (text_last c.lo c.dm) (mtext_last c.ml k6) (vMAIL.map (· + 32) ++ 32 :: kfrom)
    rw [List.append_assoc, List.cons_append] at hl
    rw [run_trimmed hl]
    exact from_line c k1 k2 k3 k4 k5 k6 (vMAIL.map (· + 32)) (by decide) (by decide) kfrom (by decide) (by decide)
  · obtain ⟨k1, k2, k3, k4, k5, k6, k7⟩ := h1
    unfold lowered
    rw [k7, k1, if_neg (show vRCPT ≠ vMAIL by decide), if_pos rfl]
    have e : (vRCPT ++ 32 :: (kTo ++ plain (Pt.text c.lo c.dm) c.rc.text.data.toList)).drop 8 = plain (Pt.text c.lo c.dm) c.rc.text.data.toList := rfl
    rw [e]
    have hl := last_plain (text_last c.lo c.dm) (rtext_last c.rc k6) (vRCPT.map (· + 32) ++ 32 :: kto)
    rw [List.append_assoc, List.cons_append] at hl
    rw [run_trimmed hl]
    exact to_line c k1 k2 k3 k4 k5 k6 (vRCPT.map (· + 32)) (by decide) (by decide) kto (by decide) (by decide)
  · obtain ⟨k1, k2, k3, k4, k5, k6, k7, k8⟩ := h1
    unfold lowered
    rw [k8, if_neg k1, if_neg k2]
    obtain ⟨f1, f2, f3, f4, f5, f6, f7, f8⟩ := verb_facts _ hv
    have hd : (c.verb ++ (if c.arg = [] then [] else 32 :: c.arg)).drop 4 = (if c.arg = [] then [] else 32 :: c.arg) := by rw [← f3, List.drop_left]
    rw [hd]
    have hne : c.verb ≠ [] := fun q => by rw [q] at f3; cases f3
    rw [parse_letters (v := c.verb) f1 f7 hne (by simpa using hne) f5 f8 (by rw [f6, f2]) (by split; exact .inl rfl; exact .inr ⟨_, rfl⟩)]
    exact k7
theorem verb_lowered {c : Cmd} (h : (line c).2 = 0) : verb (lowered c) = c.verb := by
  have hv := (line_cases h).1
  obtain ⟨f1, f2, f3, f4, f5, f6, f7, f8⟩ := verb_facts _ hv
  unfold lowered verb
  have h3 : ∀ t, (t = [] ∨ ∃ a, t = 32 :: a) → Txt.upper (Tok.cut 32 (c.verb.map (· + 32) ++ t)).1 = c.verb := fun t ht => by
    rw [cut_pre _ _ f7]
    have : (Tok.cut 32 t).1 = [] := by rcases ht with rfl | ⟨a, rfl⟩ <;> rfl
    rw [this, List.append_nil, f6]
  apply h3
  split
  · exact .inr ⟨_, rfl⟩
  · split
    · exact .inr ⟨_, rfl⟩
    · obtain ⟨hv, h1 | h1 | h1⟩ := line_cases h
      · rename_i q _; exact absurd h1.1 q
      · rename_i q; exact absurd h1.1 q
      · obtain ⟨k1, k2, k3, k4, k5, k6, k7, k8⟩ := h1
        rw [k8, ← f3, List.drop_left]
        split
        · exact .inl rfl
        · exact .inr ⟨_, rfl⟩
-- ---- parts
theorem wh_parts {wt words word : List UInt8} {p : List UInt8 × List UInt8} (hu : Txt.upper word = word) (h : Pt.parse wt = (p, [], 0)) (hw : words ≠ []) : wh (word ++ (wt ++ 32 :: words)) word = (p, words, 0) := by
  have e1 : (word ++ (wt ++ 32 :: words)).take word.length = word := by simp
  have e2 : (word ++ (wt ++ 32 :: words)).drop word.length = wt ++ 32 :: words := by simp
  have hp := Pt.parse_ext h (32 :: words)
  unfold wh
  rw [e1, e2, hp, hu, if_neg (by simp), if_neg (by simp)]
  obtain ⟨x, w, rfl⟩ := list_ne hw
  rfl
theorem parts_last {pre wt words : List UInt8} (hw : words ≠ []) (hl : words.getLast? ≠ some 32) : (pre ++ (wt ++ 32 :: words)).getLast? ≠ some 32 := by
  rw [← List.append_assoc, last_arg hw]
  exact hl
theorem parts_mail {wt words : List UInt8} {lo dm : List UInt8} (h : Pt.parse wt = ((lo, dm), [], 0)) (hw : words ≠ []) (hl : words.getLast? ≠ some 32) :
    parse (vMAIL ++ 32 :: (kFrom ++ (wt ++ 32 :: words))) = if dm = [] ∧ lo ≠ [] then (Cmd.zero, 2) else if (parseMail (tx words)).2 ≠ 0 then (Cmd.zero, (parseMail (tx words)).2) else (⟨vMAIL, [], lo, dm, (parseMail (tx words)).1, Rc.zero⟩, 0) := by
  have h2 := parts_last (pre := vMAIL ++ 32 :: kFrom) (wt := wt) hw hl
  rw [List.append_assoc, List.cons_append] at h2
  rw [run_trimmed h2]
  unfold run verb
  rw [cut_at4 (by decide)]
  dsimp only
  rw [show Txt.upper vMAIL = vMAIL by decide, show does vMAIL = some stFrom from rfl]
  dsimp only
  have hs : stFrom { Cmd.zero with verb := vMAIL } (kFrom ++ (wt ++ 32 :: words)) true = if dm = [] ∧ lo ≠ [] then (⟨vMAIL, [], lo, dm, Ml.zero, Rc.zero⟩, 2) else (⟨vMAIL, [], lo, dm, (parseMail (tx words)).1, Rc.zero⟩, (parseMail (tx words)).2) := by
    unfold stFrom
    rw [wh_parts (by decide) h hw]
    dsimp only
    rw [if_neg (by simp)]
    rfl
  rw [hs]
  split
  · rfl
  · rfl
theorem parts_rcpt {wt words : List UInt8} {lo dm : List UInt8} (h : Pt.parse wt = ((lo, dm), [], 0)) (hw : words ≠ []) (hl : words.getLast? ≠ some 32) :
    parse (vRCPT ++ 32 :: (kTo ++ (wt ++ 32 :: words))) = if dm = [] ∧ lo = [] then (Cmd.zero, 2) else if (parseRcpt (tx words)).2 ≠ 0 then (Cmd.zero, (parseRcpt (tx words)).2) else (⟨vRCPT, [], lo, dm, Ml.zero, (parseRcpt (tx words)).1⟩, 0) := by
  have h2 := parts_last (pre := vRCPT ++ 32 :: kTo) (wt := wt) hw hl
  rw [List.append_assoc, List.cons_append] at h2
  rw [run_trimmed h2]
  unfold run verb
  rw [cut_at4 (by decide)]
  dsimp only
  rw [show Txt.upper vRCPT = vRCPT by decide, show does vRCPT = some stTo from rfl]
  dsimp only
  have hs : stTo { Cmd.zero with verb := vRCPT } (kTo ++ (wt ++ 32 :: words)) true = if dm = [] ∧ lo = [] then (⟨vRCPT, [], lo, dm, Ml.zero, Rc.zero⟩, 2) else (⟨vRCPT, [], lo, dm, Ml.zero, (parseRcpt (tx words)).1⟩, (parseRcpt (tx words)).2) := by
    unfold stTo
    rw [wh_parts (by decide) h hw]
    dsimp only
    rw [if_neg (by simp)]
    rfl
  rw [hs]
  split
  · rfl
  · rfl
-- ---- none
theorem none_of {s : List UInt8} (h : verb (trimR s) ∉ verbs) : parse s = (Cmd.zero, 10) := by
  unfold parse run
  rw [does_none.2 h]
theorem none_more {v rest : List UInt8} (hv : v ∈ verbs) : parse (v ++ 88 :: 32 :: rest) = (Cmd.zero, 10) := by
  apply none_of
  obtain ⟨f1, f2, f3, f4, f5, f6, f7, f8⟩ := verb_facts _ hv
  intro hm
  have hm2 := (verb_facts _ hm).2.2.1
  rw [verb_trim] at hm2
  unfold verb at hm2
  rw [show v ++ 88 :: 32 :: rest = (v ++ [88]) ++ 32 :: rest by simp, cut_pre _ (v ++ [88]) (by simp [f1])] at hm2
  rw [show (Tok.cut 32 (32 :: rest)).1 = [] from rfl, List.append_nil] at hm2
  simp [Txt.upper, f3] at hm2
theorem none_blank {v : List UInt8} : parse (32 :: v) = (Cmd.zero, 10) := by
  apply none_of
  rw [verb_trim]
  have : verb (32 :: v) = [] := rfl
  rw [this]
  decide
theorem none_known {s : List UInt8} (h : verb s ∉ verbs) : parse s = (Cmd.zero, 10) := none_of (by rw [verb_trim]; exact h)
end Cm
end Go.Proofs.YtllhbcpbihhdnaaGreatDoor
end
section
set_option linter.unusedVariables false
set_option linter.unusedSimpArgs false
namespace Go.Proofs.YtllhbcpbihhdnaaGreatDoor
open Go.RowKit Go.Shelf Pm
set_option maxRecDepth 100000
def Pm.Ml.eqb (m n : Ml) : Bool :=
  ((m.hS == n.hS) && ((m.hF == n.hF) && ((m.hU == n.hU) && ((m.hB == n.hB) && ((m.hP == n.hP) && true))))) && ((m.s == n.s) && ((m.f == n.f) && ((m.u == n.u) && ((m.b == n.b) && ((m.p == n.p) &&
  ((m.body.toList == n.body.toList) && ((m.ret.toList == n.ret.toList) && ((m.envid.toList == n.envid.toList) && ((m.mode.toList == n.mode.toList) && true)))))))))
def Pm.Rc.eqb (m n : Rc) : Bool := (m.nt.toList == n.nt.toList) && ((m.kd.toList == n.kd.toList) && ((m.oc.toList == n.oc.toList) && true))
theorem ba_eqb {a b : ByteArray} : (a.toList == b.toList) = true ↔ a = b := by
  rw [beq_iff_eq]
  exact ⟨fun h => by rw [Lib.toList_data, Lib.toList_data] at h; exact ByteArray.ext (Array.toList_inj.1 h), fun h => by rw [h]⟩
theorem Pm.Ml.eqb_iff (m n : Ml) : m.eqb n = true ↔ m = n := by
  obtain ⟨a1, a2, a3, a4, a5, a6, a7, a8, a9, a10, a11, a12, a13, a14⟩ := m
  obtain ⟨b1, b2, b3, b4, b5, b6, b7, b8, b9, b10, b11, b12, b13, b14⟩ := n
  unfold Ml.eqb
  simp only [Bool.and_eq_true, ba_eqb, Ml.mk.injEq, and_true, and_assoc]
  simp only [beq_iff_eq]
theorem Pm.Rc.eqb_iff (m n : Rc) : m.eqb n = true ↔ m = n := by
  obtain ⟨a1, a2, a3⟩ := m
  obtain ⟨b1, b2, b3⟩ := n
  unfold Rc.eqb
  simp only [Bool.and_eq_true, ba_eqb, Rc.mk.injEq, and_true]
namespace Cm
def pthEqb (a b a' b' : List UInt8) : Bool := ((tx a).toList == (tx a').toList) && (((tx b).toList == (tx b').toList) && true)
def Cmd.eqb (c e : Cmd) : Bool := ((tx c.verb).toList == (tx e.verb).toList) && (((tx c.arg).toList == (tx e.arg).toList) && (pthEqb c.lo c.dm e.lo e.dm && (c.ml.eqb e.ml && (c.rc.eqb e.rc && true))))
theorem tx_eqb {a b : List UInt8} : ((tx a).toList == (tx b).toList) = true ↔ a = b := ba_eqb.trans ⟨tx_inj, fun h => by rw [h]⟩
theorem pthEqb_iff (a b a' b' : List UInt8) : pthEqb a b a' b' = true ↔ a = a' ∧ b = b' := by
  unfold pthEqb
  simp only [Bool.and_eq_true, tx_eqb, and_true]
theorem Cmd.eqb_iff (c e : Cmd) : c.eqb e = true ↔ c = e := by
  obtain ⟨a1, a2, a3, a4, a5, a6⟩ := c
  obtain ⟨b1, b2, b3, b4, b5, b6⟩ := e
  unfold Cmd.eqb
  simp only [Bool.and_eq_true, tx_eqb, pthEqb_iff, Ml.eqb_iff, Rc.eqb_iff, Cmd.mk.injEq, and_true, and_assoc]
theorem Cmd.eqb_self (c : Cmd) : c.eqb c = true := (c.eqb_iff c).2 rfl
theorem Cmd.eqb_ne {c e : Cmd} (h : c ≠ e) : c.eqb e = false := by
  cases k : c.eqb e with
  | false => rfl
  | true => exact absurd ((c.eqb_iff e).1 k) h
end Cm
theorem cmp_path (d : Nat) (a b a' b' : List UInt8) : Cmp Tryz.prog (d + 2) 23 (.agg #[.string (Cm.tx a), .string (Cm.tx b)]) (.agg #[.string (Cm.tx a'), .string (Cm.tx b')]) (Cm.pthEqb a b a' b') := by
  refine cmp_struct (by kernel_rfl) (by kernel_rfl) (by rfl) ?_
  refine cmpF_cons (by decide) _ _ (fun w => by rfl) (fun w => by rfl) (cmp_str (by kernel_rfl) _ _) ?_
  refine cmpF_cons (by decide) _ _ (fun w => by rfl) (fun w => by rfl) (cmp_str (by kernel_rfl) _ _) ?_
  exact cmpF_nil _ _
theorem cmp_has (d : Nat) (a1 a2 a3 a4 a5 b1 b2 b3 b4 b5 : Bool) : Cmp Tryz.prog (d + 2) 25 (.agg #[.bool a1, .bool a2, .bool a3, .bool a4, .bool a5]) (.agg #[.bool b1, .bool b2, .bool b3, .bool b4, .bool b5]) ((a1 == b1) && ((a2 == b2) && ((a3 == b3) && ((a4 == b4) && ((a5 == b5) && true))))) := by
  refine cmp_struct (by kernel_rfl) (by kernel_rfl) (by rfl) ?_
  refine cmpF_cons (by decide) _ _ (fun w => by rfl) (fun w => by rfl) (cmp_bool (by kernel_rfl) _ _) ?_
  refine cmpF_cons (by decide) _ _ (fun w => by rfl) (fun w => by rfl) (cmp_bool (by kernel_rfl) _ _) ?_
  refine cmpF_cons (by decide) _ _ (fun w => by rfl) (fun w => by rfl) (cmp_bool (by kernel_rfl) _ _) ?_
  refine cmpF_cons (by decide) _ _ (fun w => by rfl) (fun w => by rfl) (cmp_bool (by kernel_rfl) _ _) ?_
  refine cmpF_cons (by decide) _ _ (fun w => by rfl) (fun w => by rfl) (cmp_bool (by kernel_rfl) _ _) ?_
  exact cmpF_nil _ _
theorem cmp_ml (d : Nat) (m n : Ml) : Cmp Tryz.prog (d + 3) 27 (.agg m.cells) (.agg n.cells) (m.eqb n) := by
  refine cmp_struct (by kernel_rfl) (by kernel_rfl) (by rfl) ?_
  refine cmpF_cons (by decide) (.agg #[.bool m.hS, .bool m.hF, .bool m.hU, .bool m.hB, .bool m.hP]) (.agg #[.bool n.hS, .bool n.hF, .bool n.hU, .bool n.hB, .bool n.hP]) (fun w => by rfl) (fun w => by rfl) (cmp_has _ _ _ _ _ _ _ _ _ _ _) ?_
  refine cmpF_cons (by decide) (.int .i64 m.s) (.int .i64 n.s) (fun w => by rfl) (fun w => by rfl) (cmp_int (k' := .i64) (by kernel_rfl) _ _) ?_
  refine cmpF_cons (by decide) (.int .i64 m.f) (.int .i64 n.f) (fun w => by rfl) (fun w => by rfl) (cmp_int (k' := .i64) (by kernel_rfl) _ _) ?_
  refine cmpF_cons (by decide) (.int .i64 m.u) (.int .i64 n.u) (fun w => by rfl) (fun w => by rfl) (cmp_int (k' := .i64) (by kernel_rfl) _ _) ?_
  refine cmpF_cons (by decide) (.int .i64 m.b) (.int .i64 n.b) (fun w => by rfl) (fun w => by rfl) (cmp_int (k' := .i64) (by kernel_rfl) _ _) ?_
  refine cmpF_cons (by decide) (.int .i64 m.p) (.int .i64 n.p) (fun w => by rfl) (fun w => by rfl) (cmp_int (k' := .i64) (by kernel_rfl) _ _) ?_
  refine cmpF_cons (by decide) (.string m.body) (.string n.body) (fun w => by rfl) (fun w => by rfl) (cmp_str (by kernel_rfl) _ _) ?_
  refine cmpF_cons (by decide) (.string m.ret) (.string n.ret) (fun w => by rfl) (fun w => by rfl) (cmp_str (by kernel_rfl) _ _) ?_
  refine cmpF_cons (by decide) (.string m.envid) (.string n.envid) (fun w => by rfl) (fun w => by rfl) (cmp_str (by kernel_rfl) _ _) ?_
  refine cmpF_cons (by decide) (.string m.mode) (.string n.mode) (fun w => by rfl) (fun w => by rfl) (cmp_str (by kernel_rfl) _ _) ?_
  exact cmpF_nil _ _
theorem cmp_rc (d : Nat) (m n : Rc) : Cmp Tryz.prog (d + 2) 29 (.agg m.cells) (.agg n.cells) (m.eqb n) := by
  refine cmp_struct (by kernel_rfl) (by kernel_rfl) (by rfl) ?_
  refine cmpF_cons (by decide) (.string m.nt) (.string n.nt) (fun w => by rfl) (fun w => by rfl) (cmp_str (by kernel_rfl) _ _) ?_
  refine cmpF_cons (by decide) (.string m.kd) (.string n.kd) (fun w => by rfl) (fun w => by rfl) (cmp_str (by kernel_rfl) _ _) ?_
  refine cmpF_cons (by decide) (.string m.oc) (.string n.oc) (fun w => by rfl) (fun w => by rfl) (cmp_str (by kernel_rfl) _ _) ?_
  exact cmpF_nil _ _
theorem cmp_cmd (d : Nat) (c e : Cm.Cmd) : Cmp Tryz.prog (d + 4) 31 (.agg c.cells) (.agg e.cells) (c.eqb e) := by
  refine cmp_struct (by kernel_rfl) (by kernel_rfl) (by rfl) ?_
  refine cmpF_cons (by decide) (.string (Cm.tx c.verb)) (.string (Cm.tx e.verb)) (fun w => by rfl) (fun w => by rfl) (cmp_str (by kernel_rfl) _ _) ?_
  refine cmpF_cons (by decide) (.string (Cm.tx c.arg)) (.string (Cm.tx e.arg)) (fun w => by rfl) (fun w => by rfl) (cmp_str (by kernel_rfl) _ _) ?_
  refine cmpF_cons (by decide) (.agg #[.string (Cm.tx c.lo), .string (Cm.tx c.dm)]) (.agg #[.string (Cm.tx e.lo), .string (Cm.tx e.dm)]) (fun w => by rfl) (fun w => by rfl) (cmp_path _ _ _ _ _) ?_
  refine cmpF_cons (by decide) (.agg c.ml.cells) (.agg e.ml.cells) (fun w => by rfl) (fun w => by rfl) (cmp_ml _ _ _) ?_
  refine cmpF_cons (by decide) (.agg c.rc.cells) (.agg e.rc.cells) (fun w => by rfl) (fun w => by rfl) (cmp_rc _ _ _) ?_
  exact cmpF_nil _ _
theorem neq_cmp {t t' : TypeId} {xs ys : Array Value} {b : Bool} (hm : Tryz.prog.eqGuardType Tryz.prog.depth t = false) (h : Cmp Tryz.prog 10000 t (.agg xs) (.agg ys) b) (w : World) (a : Act) (o : Oper) (x y : Operand) (ho : o.op = .binOp .neq t x y t') (hx : a.eval x = .agg xs) (hy : a.eval y = .agg ys) : (execOp a.eval o).run Tryz.prog w = .ok (.value (.bool (!b))) w := by
  simp only [execOp, ho, hx, hy, Sem.run_bind, run_eqGuard_agg w _ t x y xs ys hm, Result.andThen_ok, run_neq_struct, h.out, Sem.run_pure]
theorem eql_cmp {t t' : TypeId} {xs ys : Array Value} {b : Bool} (hm : Tryz.prog.eqGuardType Tryz.prog.depth t = false) (h : Cmp Tryz.prog 10000 t (.agg xs) (.agg ys) b) (w : World) (a : Act) (o : Oper) (x y : Operand) (ho : o.op = .binOp .eql t x y t') (hx : a.eval x = .agg xs) (hy : a.eval y = .agg ys) : (execOp a.eval o).run Tryz.prog w = .ok (.value (.bool b)) w := by
  simp only [execOp, ho, hx, hy, Sem.run_bind, run_eqGuard_agg w _ t x y xs ys hm, Result.andThen_ok, run_eql_struct, h.out, Sem.run_pure]
theorem neq_cmd (c e : Cm.Cmd) (w : World) (a : Act) (o : Oper) (x y : Operand) (t' : TypeId) (ho : o.op = .binOp .neq 31 x y t') (hx : a.eval x = .agg c.cells) (hy : a.eval y = .agg e.cells) : (execOp a.eval o).run Tryz.prog w = .ok (.value (.bool (!c.eqb e))) w :=
  neq_cmp (by kernel_rfl) (cmp_cmd 9996 c e) w a o x y ho hx hy
theorem eql_cmd (c e : Cm.Cmd) (w : World) (a : Act) (o : Oper) (x y : Operand) (t' : TypeId) (ho : o.op = .binOp .eql 31 x y t') (hx : a.eval x = .agg c.cells) (hy : a.eval y = .agg e.cells) : (execOp a.eval o).run Tryz.prog w = .ok (.value (.bool (c.eqb e))) w :=
  eql_cmp (by kernel_rfl) (cmp_cmd 9996 c e) w a o x y ho hx hy
end Go.Proofs.YtllhbcpbihhdnaaGreatDoor
end
section
set_option linter.unusedVariables false
set_option linter.unusedSimpArgs false
namespace Go.Proofs.YtllhbcpbihhdnaaGreatDoor
open Go.RowKit Go.Shelf Pm
set_option maxRecDepth 100000
theorem verbs_has (v : List UInt8) : Lib.containsS [⟨#[72, 69, 76, 79]⟩, ⟨#[69, 72, 76, 79]⟩, ⟨#[77, 65, 73, 76]⟩, ⟨#[82, 67, 80, 84]⟩, ⟨#[68, 65, 84, 65]⟩, ⟨#[82, 83, 69, 84]⟩, ⟨#[81, 85, 73, 84]⟩, ⟨#[78, 79, 79, 80]⟩, ⟨#[86, 82, 70, 89]⟩, ⟨#[72, 69, 76, 80]⟩] (Cm.tx v) = decide (v ∈ Cm.verbs) := by
  have h : ([⟨#[72, 69, 76, 79]⟩, ⟨#[69, 72, 76, 79]⟩, ⟨#[77, 65, 73, 76]⟩, ⟨#[82, 67, 80, 84]⟩, ⟨#[68, 65, 84, 65]⟩, ⟨#[82, 83, 69, 84]⟩, ⟨#[81, 85, 73, 84]⟩, ⟨#[78, 79, 79, 80]⟩, ⟨#[86, 82, 70, 89]⟩, ⟨#[72, 69, 76, 80]⟩] : List ByteArray) = Cm.verbs.map Cm.tx := by rfl
  rw [h, Bool.eq_iff_iff, Lib.containsS_iff, decide_eq_true_iff, List.mem_map]
  exact ⟨fun ⟨x, hx, he⟩ => Cm.tx_inj he ▸ hx, fun h => ⟨v, h, rfl⟩⟩
theorem contains_verb (v : List UInt8) (b : Nat) (W : World) (hb : Blk W b #[.string ⟨#[72, 69, 76, 79]⟩, .string ⟨#[69, 72, 76, 79]⟩, .string ⟨#[77, 65, 73, 76]⟩, .string ⟨#[82, 67, 80, 84]⟩, .string ⟨#[68, 65, 84, 65]⟩, .string ⟨#[82, 83, 69, 84]⟩, .string ⟨#[81, 85, 73, 84]⟩, .string ⟨#[78, 79, 79, 80]⟩, .string ⟨#[86, 82, 70, 89]⟩, .string ⟨#[72, 69, 76, 80]⟩] 9) : Calls Tryz.prog 25 #[.slice (some ⟨b, 0, none⟩) 10 10, .string (Cm.tx v)] W fun e w' => e = .returned (.bool (decide (v ∈ Cm.verbs))) ∧ w' = W := by
  have h := Tryz.slices_Contains_string b 0 10 10 [⟨#[72, 69, 76, 79]⟩, ⟨#[69, 72, 76, 79]⟩, ⟨#[77, 65, 73, 76]⟩, ⟨#[82, 67, 80, 84]⟩, ⟨#[68, 65, 84, 65]⟩, ⟨#[82, 83, 69, 84]⟩, ⟨#[81, 85, 73, 84]⟩, ⟨#[78, 79, 79, 80]⟩, ⟨#[86, 82, 70, 89]⟩, ⟨#[72, 69, 76, 80]⟩] (Cm.tx v) W (by decide) (by omega) (fun j hj => by
    rw [Nat.zero_add]
    refine hb.cell j _ ?_
    match j, hj with
    | 0, _ => rfl
    | 1, _ => rfl
    | 2, _ => rfl
    | 3, _ => rfl
    | 4, _ => rfl
    | 5, _ => rfl
    | 6, _ => rfl
    | 7, _ => rfl
    | 8, _ => rfl
    | 9, _ => rfl)
  rw [List.take_of_length_le (by decide), verbs_has] at h
  exact h
theorem contains_lit (V : ByteArray) (v : List UInt8) (hV : V = Cm.tx v) (r : Bool) (hr : decide (v ∈ Cm.verbs) = r) (b : Nat) (W : World) (hb : Blk W b #[.string ⟨#[72, 69, 76, 79]⟩, .string ⟨#[69, 72, 76, 79]⟩, .string ⟨#[77, 65, 73, 76]⟩, .string ⟨#[82, 67, 80, 84]⟩, .string ⟨#[68, 65, 84, 65]⟩, .string ⟨#[82, 83, 69, 84]⟩, .string ⟨#[81, 85, 73, 84]⟩, .string ⟨#[78, 79, 79, 80]⟩, .string ⟨#[86, 82, 70, 89]⟩, .string ⟨#[72, 69, 76, 80]⟩] 9) : Calls Tryz.prog 25 #[.slice (some ⟨b, 0, none⟩) 10 10, .string V] W fun e w' => e = .returned (.bool r) ∧ w' = W := by
  subst hV hr
  exact contains_verb v b W hb
theorem text_len {lo dm : List UInt8} (h : Pt.right lo dm = 0) : (Pt.text lo dm).length ≤ 1000 := by
  obtain ⟨h1, h2, _⟩ := Pt.right_cases h
  have he := Pt.esc_len lo
  have hl : (Pt.local_ lo).length ≤ 200 := by
    unfold Pt.local_
    split
    · omega
    · simp; omega
  unfold Pt.text
  split
  · simp; omega
  · simp; omega
theorem tail_eq (V K : ByteArray) (p : List UInt8) (W : ByteArray) (LL : List UInt8) (h : Cm.trimR (V.data.toList ++ K.data.toList ++ p ++ 32 :: W.data.toList) = LL) : (⟨(Lib.trimRightB (V ++ K ++ Cm.tx p ++ ⟨#[32]⟩ ++ W).data.toList 32).toArray⟩ : ByteArray) = Cm.tx LL := by
  rw [← h]
  show Cm.tx (Cm.trimR _) = _
  congr 2
  simp [Cm.tx]
abbrev Cm.verbVals : Array Value := #[.string ⟨#[72, 69, 76, 79]⟩, .string ⟨#[69, 72, 76, 79]⟩, .string ⟨#[77, 65, 73, 76]⟩, .string ⟨#[82, 67, 80, 84]⟩, .string ⟨#[68, 65, 84, 65]⟩, .string ⟨#[82, 83, 69, 84]⟩, .string ⟨#[81, 85, 73, 84]⟩, .string ⟨#[78, 79, 79, 80]⟩, .string ⟨#[86, 82, 70, 89]⟩, .string ⟨#[72, 69, 76, 80]⟩]
/-- In Print: the command. -/
structure PrS (w : World) (H : Nat) (c : Cm.Cmd) (W : World) : Prop where
  low : Below H w W
  sz : H + 1 ≤ W.heap.size
  cmd : Blk W H c.cells 31
theorem PrS.next {w : World} {H : Nat} {c : Cm.Cmd} {W W' : World} (h : PrS w H c W) (k : Below W.heap.size W W') : PrS w H c W' :=
  ⟨h.low.trans (k.mono (by have := h.sz; omega)), Nat.le_trans h.sz k.size, h.cmd.below k⟩
theorem PrS.alloc {w : World} {H : Nat} {c : Cm.Cmd} {W : World} (h : PrS w H c W) (o : Obj) : PrS w H c (W.alloc o) := h.next ((Below.refl _ _).alloc (Nat.le_refl _) o)
theorem PrS.drew {w : World} {H : Nat} {c : Cm.Cmd} {W : World} (h : PrS w H c W) : PrS w H c W.drew := ⟨h.low.drew, h.sz, h.cmd⟩
/-- .. and the plain one. -/
structure PrP (w : World) (H : Nat) (c : Cm.Cmd) (B : Nat) (p : Cm.Cmd) (W : World) : Prop where
  low : PrS w H c W
  lt : H < B
  pl : Blk W B p.cells 31
theorem PrP.next {w : World} {H B : Nat} {c p : Cm.Cmd} {W W' : World} (h : PrP w H c B p W) (k : Below W.heap.size W W') : PrP w H c B p W' := ⟨h.low.next k, h.lt, h.pl.below k⟩
theorem PrP.alloc {w : World} {H B : Nat} {c p : Cm.Cmd} {W : World} (h : PrP w H c B p W) (o : Obj) : PrP w H c B p (W.alloc o) := h.next ((Below.refl _ _).alloc (Nat.le_refl _) o)
theorem PrP.drew {w : World} {H B : Nat} {c p : Cm.Cmd} {W : World} (h : PrP w H c B p W) : PrP w H c B p W.drew := ⟨h.low.drew, h.lt, h.pl⟩
theorem PrP.chg {w : World} {H B : Nat} {c p p' : Cm.Cmd} {W W' : World} (h : PrP w H c B p W) (hb : Blk W' B p'.cells 31) (hc : Chg (fun k => k = B) W W') : PrP w H c B p' W' :=
  ⟨⟨hc.below h.low.low (fun k hk => by have := h.lt; omega) (by have := h.low.sz; omega), Nat.le_trans h.low.sz hc.size, h.low.cmd.chg hc (by have := h.lt; omega)⟩, h.lt, hb⟩
theorem PrP.lv {w : World} {c p : Cm.Cmd} {B : Nat} {W : World} (h : PrP w w.heap.size c B p W) (hl : Lv w) : Lv W := hl.next h.low.low
theorem cmd_pth2 (c : Cm.Cmd) (lo dm : List UInt8) : setL c.cells 2 [.string (Cm.tx lo), .string (Cm.tx dm)] = ({ c with lo := lo, dm := dm } : Cm.Cmd).cells := by kernel_rfl
theorem cmd_arg2 (c : Cm.Cmd) (a : List UInt8) : c.cells.setIfInBounds 1 (.string (Cm.tx a)) = ({ c with arg := a } : Cm.Cmd).cells := by rfl
theorem neq_as (c e : Cm.Cmd) (b : Bool) (h : (!c.eqb e) = b) (w : World) (a : Act) (o : Oper) (x y : Operand) (t' : TypeId) (ho : o.op = .binOp .neq 31 x y t') (hx : a.eval x = .agg c.cells) (hy : a.eval y = .agg e.cells) : (execOp a.eval o).run Tryz.prog w = .ok (.value (.bool b)) w := by
  rw [← h]
  exact neq_cmd c e w a o x y t' ho hx hy
theorem setL_app (cs : Array Value) : ∀ (o : Nat) (l m : List Value), setL cs o (l ++ m) = setL (setL cs o l) (o + l.length) m := by
  intro o l
  induction l generalizing cs o with
  | nil => intro m; rfl
  | cons x l ih => intro m; show setL (cs.setIfInBounds o x) (o + 1) (l ++ m) = _; rw [ih]; show _ = setL (setL (cs.setIfInBounds o x) (o + 1) l) (o + (l.length + 1)) m; rw [show o + (l.length + 1) = o + 1 + l.length by omega]
end Go.Proofs.YtllhbcpbihhdnaaGreatDoor
end
section
set_option linter.unusedVariables false
set_option linter.unusedSimpArgs false
namespace Go.Proofs.YtllhbcpbihhdnaaGreatDoor
open Go.RowKit Go.Shelf Pm
set_option maxRecDepth 100000
namespace Cm
/-- Texts short enough to be gone through. -/
structure Fits (c : Cmd) : Prop where
  ml : Fit c.ml
  env : c.ml.right = 0 → c.ml.envid.size ≤ 100
  kd : c.rc.kd.size ≤ 2000
  oc : c.rc.oc.size ≤ 2000
  arg : c.verb.length + c.arg.length ≤ 90000
theorem trimR_len (s : List UInt8) : (trimR s).length ≤ s.length := by
  obtain ⟨n, h⟩ := trimR_split s
  have := congrArg List.length h
  simp at this
  omega
theorem domain_len (l : List UInt8) : (Pt.domain l).1.length ≤ l.length := by
  unfold Pt.domain
  split
  · exact Nat.zero_le _
  · split
    · simp [Go.Lib.toLowerA]
    · exact Nat.zero_le _
theorem does_arg {v : List UInt8} {f : Cmd → List UInt8 → Bool → Cmd × Int} (h : does v = some f) (c : Cmd) (hc : c.arg = []) (rest : List UInt8) (has : Bool) : (f c rest has).1.arg.length ≤ rest.length ∧ (f c rest has).1.verb = c.verb := by
  rcases does_inv h with ⟨_, rfl⟩ | ⟨_, rfl⟩ | ⟨_, rfl⟩ | ⟨_, rfl⟩ | ⟨_, rfl⟩
  · unfold stDom
    split
    · rw [hc]; exact ⟨Nat.zero_le _, rfl⟩
    · exact ⟨domain_len rest, rfl⟩
  · unfold stFrom
    split
    · rw [hc]; exact ⟨Nat.zero_le _, rfl⟩
    · split
      · show c.arg.length ≤ _ ∧ _; rw [hc]; exact ⟨Nat.zero_le _, rfl⟩
      · show c.arg.length ≤ _ ∧ _; rw [hc]; exact ⟨Nat.zero_le _, rfl⟩
  · unfold stTo
    split
    · rw [hc]; exact ⟨Nat.zero_le _, rfl⟩
    · split
      · show c.arg.length ≤ _ ∧ _; rw [hc]; exact ⟨Nat.zero_le _, rfl⟩
      · show c.arg.length ≤ _ ∧ _; rw [hc]; exact ⟨Nat.zero_le _, rfl⟩
  · unfold stNone
    split
    · rw [hc]; exact ⟨Nat.zero_le _, rfl⟩
    · rw [hc]; exact ⟨Nat.zero_le _, rfl⟩
  · unfold stText
    split
    · rw [hc]; exact ⟨Nat.zero_le _, rfl⟩
    · exact ⟨Nat.le_refl _, rfl⟩
theorem parse_arg_len {s : List UInt8} {c : Cmd} (h : parse s = (c, 0)) : c.arg.length ≤ s.length ∧ c.verb ∈ verbs := by
  obtain ⟨f, hd, hf⟩ := run_inv h
  have h1 := does_arg hd { Cmd.zero with verb := verb (trimR s) } rfl (Tok.cut 32 (trimR s)).2.1 (Tok.cut 32 (trimR s)).2.2
  rw [hf] at h1
  have h2 := cut_behind 32 (trimR s)
  have h3 := trimR_len s
  have h4 : c.arg.length ≤ (Tok.cut 32 (trimR s)).2.1.length := h1.1
  have h5 : c.verb = verb (trimR s) := h1.2
  exact ⟨by omega, by rw [h5]; exact does_mem hd⟩
theorem rc_sizes {r : Rc} (h : r.right = 0) : r.kd.size ≤ 2000 ∧ r.oc.size ≤ 2000 := by
  have oy := rright_zero r h
  constructor
  · rcases oy.ko with k | k
    · rw [k.1]; decide
    · have := k.2.2.1
      unfold typed at this
      rw [Bool.and_eq_true, decide_eq_true_eq] at this
      have h2 : r.kd.data.toList.length = r.kd.size := by simp
      omega
  · rcases oy.ko with k | k
    · rw [k.2]; decide
    · omega
theorem zero_ok : Ml.zero.right = 0 ∧ Rc.zero.right = 0 := ⟨by kernel_rfl, by kernel_rfl⟩
/-- What has a line is short, but for its argument. -/
theorem fits_line {c : Cmd} (h : (line c).2 = 0) (ha : c.arg.length ≤ 80000) : Fits c := by
  obtain ⟨hv, h1 | h1 | h1⟩ := line_cases h
  all_goals have hvl := (verb_facts _ hv).2.2.1
  · obtain ⟨k1, k2, k3, k4, k5, k6, k7⟩ := h1
    have ox := (right_zero c.ml k6).1
    exact ⟨ok_fit _ ox, fun _ => ox.env, by rw [k3]; decide, by rw [k3]; decide, by omega⟩
  · obtain ⟨k1, k2, k3, k4, k5, k6, k7⟩ := h1
    have ox := (right_zero Ml.zero zero_ok.1).1
    exact ⟨by rw [k3]; exact ok_fit _ ox, fun _ => by rw [k3]; decide, (rc_sizes k6).1, (rc_sizes k6).2, by omega⟩
  · obtain ⟨k1, k2, k3, k4, k5, k6, k7, k8⟩ := h1
    have ox := (right_zero Ml.zero zero_ok.1).1
    exact ⟨by rw [k5]; exact ok_fit _ ox, fun _ => by rw [k5]; decide, by rw [k6]; decide, by rw [k6]; decide, by omega⟩
theorem print_ok {c : Cmd} {t : List UInt8} (h : print c = (t, 0)) : (line c).2 = 0 ∧ (line c).1 = t ∧ t.length ≤ 510 := by
  unfold print at h
  split at h
  · rename_i q; exact absurd (congrArg Prod.snd h) q
  · split at h
    · exact absurd (show (3 : Int) = 0 from congrArg Prod.snd h) (by decide)
    · rename_i q1 q2
      have h9 : (line c).1 = t := congrArg Prod.fst h
      exact ⟨Classical.byContradiction q1, h9, by rw [← h9]; omega⟩
theorem print_bad {c : Cmd} {t : List UInt8} {e : Int} (h : print c = (t, e)) (he : e ≠ 0) : t = [] := by
  unfold print at h
  split at h
  · exact (congrArg Prod.fst h).symm
  · split at h
    · exact (congrArg Prod.fst h).symm
    · rename_i q1 q2
      exact absurd ((congrArg Prod.snd h).symm.trans (Classical.byContradiction q1)) he
/-- What is parsed is printed, but for its length. -/
theorem print_parsed {s : List UInt8} {c : Cmd} (h : parse s = (c, 0)) : (∃ t, print c = (t, 0) ∧ parse t = (c, 0) ∧ t.length ≤ 510) ∨ print c = ([], 3) := by
  have hl := parse_line h
  have hp := line_parse hl
  unfold print
  rw [if_neg (not_not_intro hl)]
  by_cases h5 : 510 < (line c).1.length
  · rw [if_pos h5]; exact .inr rfl
  · rw [if_neg h5]; exact .inl ⟨(line c).1, Prod.ext rfl hl, hp, by omega⟩
end Cm
end Go.Proofs.YtllhbcpbihhdnaaGreatDoor
end
