/-
  Plain laws of the words: what was printed of a message is parsed.
-/
import Derived.Test.YtfffdbjfhdkheaaGreatDoorQPmLaw2
set_option linter.unusedVariables false
set_option linter.unusedSimpArgs false
namespace Tx
theorem hex_unhex : ∀ n : Fin 16, unhex (hex n.val) = (n.val : Int) := by decide
theorem plain_hex : ∀ n : Fin 16, hex n.val ≠ 32 := by decide
/-- What was encoded is decoded. -/
theorem dec_enc (l : List UInt8) : dec (enc l) = some l := by
  induction l with
  | nil => rfl
  | cons c l ih =>
    have hc := c.toNat_lt
    show dec (enc1 c ++ enc l) = _
    unfold enc1
    by_cases h : Txt.plain c = true
    · rw [if_pos h, List.singleton_append, dec_cons, if_pos h, ih]
      rfl
    · rw [if_neg h]
      have h1 := hex_unhex ⟨c.toNat / 16, by omega⟩
      have h2 := hex_unhex ⟨c.toNat % 16, by omega⟩
      simp only at h1 h2
      simp only [List.cons_append, List.nil_append]
      rw [dec_cons, if_neg (by decide), if_pos rfl]
      simp only [h1, h2]
      rw [if_pos ⟨by omega, by omega⟩, ih]
      simp only [Option.map_some, Int.toNat_natCast]
      rw [show 16 * (c.toNat / 16) + c.toNat % 16 = c.toNat by omega]
      simp
theorem enc_no32 (l : List UInt8) : 32 ∉ enc l := by
  induction l with
  | nil => simp [enc]
  | cons c l ih =>
    have hc := c.toNat_lt
    show 32 ∉ enc1 c ++ enc l
    rw [List.mem_append, not_or]
    refine ⟨?_, ih⟩
    unfold enc1
    split
    · rename_i h
      simp only [List.mem_singleton]
      rintro rfl
      simp [Txt.plain] at h
    · have h1 := plain_hex ⟨c.toNat / 16, by omega⟩
      have h2 := plain_hex ⟨c.toNat % 16, by omega⟩
      simp only [List.mem_cons, List.not_mem_nil, or_false, not_or]
      exact ⟨by decide, fun e => h1 e.symm, fun e => h2 e.symm⟩
theorem enc_ne {l : List UInt8} (h : l ≠ []) : enc l ≠ [] := by
  intro e
  have := dec_enc l
  rw [e] at this
  simp [dec] at this
  exact h this
end Tx
namespace Go.Proofs.YtfffdbjfhdkheaaGreatDoor
open Go.RowKit Go.Shelf
set_option maxRecDepth 100000
theorem inter_cons (sep x : List UInt8) (y : List UInt8) (r : List (List UInt8)) : List.intercalate sep (x :: y :: r) = x ++ sep ++ List.intercalate sep (y :: r) := by
  simp [List.intercalate, List.intersperse]
theorem split_join (b : UInt8) : ∀ (ls : List (List UInt8)), ls ≠ [] → (∀ l ∈ ls, b ∉ l) → Tok.split b (List.intercalate [b] ls) = ls
  | [], h, _ => absurd rfl h
  | [x], _, h => by
    have : List.intercalate [b] [x] = x := by simp [List.intercalate]
    rw [this, Tok.split_no (h x (by simp))]
  | x :: y :: r, _, h => by
    rw [inter_cons, List.append_assoc, List.singleton_append, Tok.split_at _ (h x (by simp)), split_join b (y :: r) (by simp) (fun l hl => h l (List.mem_cons_of_mem _ hl))]
theorem parts_join (b : UInt8) (ws : List ByteArray) (h0 : ws ≠ []) (h : ∀ w ∈ ws, b ∉ w.data.toList) : parts b (joinB ws ⟨#[b]⟩) = ws := by
  unfold parts joinB Lib.join
  show (Tok.split b (List.intercalate [b] (ws.map (·.data.toList)))).map _ = ws
  rw [split_join b _ (by simpa using h0) (by intro l hl; obtain ⟨w, hw, rfl⟩ := List.mem_map.1 hl; exact h w hw), List.map_map]
  have : ∀ l : List ByteArray, l.map ((fun l : List UInt8 => (⟨l.toArray⟩ : ByteArray)) ∘ fun x => x.data.toList) = l := fun l => by induction l <;> simp_all
  exact this ws
theorem joinB_ne (ws : List ByteArray) (sep : ByteArray) (h0 : ws ≠ []) (h : ∀ w ∈ ws, w.data.toList ≠ []) : (joinB ws sep).data.toList ≠ [] := by
  cases ws with
  | nil => exact absurd rfl h0
  | cons x r =>
    have hx := h x (by simp)
    show List.intercalate sep.data.toList ((x :: r).map (·.data.toList)) ≠ []
    cases r with
    | nil => simpa [List.intercalate] using hx
    | cons y r => rw [List.map_cons, List.map_cons, inter_cons]; simp [hx]
namespace Pm
theorem word_cuts (key val : ByteArray) (hk : 61 ∉ key.data.toList) : cutL (word key val) 61 = key ∧ cutR (word key val) 61 = val ∧ (word key val).data.toList ≠ [] ∧ (word key val).data.toList = key.data.toList ++ 61 :: val.data.toList := by
  have hl : (word key val).data.toList = key.data.toList ++ 61 :: val.data.toList := by simp [word]
  refine ⟨?_, ?_, by rw [hl]; simp, hl⟩
  · unfold cutL; rw [hl, Tok.cut_eq, Tok.cut_at _ hk]
  · unfold cutR; rw [hl, Tok.cut_eq, Tok.cut_at _ hk]
/-- One word more. -/
theorem more_runs {σ : Type} {ks : List (Key σ)} {st0 x x' : σ} {ws seen old : List ByteArray} (h : ∀ rest, wordsRun ks (ws ++ rest) [] st0 = wordsRun ks rest seen x) (hs : ∀ y ∈ seen, y ∈ old) (has : Bool) (key val : ByteArray) (hk : 61 ∉ key.data.toList) (hu : upB key = key) (hold : key ∉ old)
    (K : Key σ) (hf : findK ks key = some K) (h1 : has = true → K.step val x = (x', 0)) (h0 : has = false → x' = x) :
    ∃ seen', (∀ rest, wordsRun ks (more has key val ws ++ rest) [] st0 = wordsRun ks rest seen' x') ∧ ∀ y ∈ seen', y ∈ key :: old := by
  cases has with
  | false =>
    refine ⟨seen, ?_, fun y hy => List.mem_cons_of_mem _ (hs y hy)⟩
    rw [h0 rfl]
    exact h
  | true =>
    have hc := word_cuts key val hk
    have hw : wordStep ks (word key val) seen x = ((seen ++ [key], x'), 0) := by
      unfold wordStep
      rw [if_neg hc.2.2.1, hc.1, hu, hf, hc.2.1]
      simp only
      rw [if_neg, h1 rfl]
      intro q
      obtain ⟨y, hy, he⟩ := List.any_eq_true.1 q
      simp at he
      subst he
      exact hold (hs _ hy)
    refine ⟨seen ++ [key], (run_more h (word key val) hw).1 rfl, fun y hy => ?_⟩
    rcases List.mem_append.1 hy with hy | hy
    · exact List.mem_cons_of_mem _ (hs y hy)
    · simp at hy; subst hy; exact List.mem_cons_self ..
theorem more_mem {has : Bool} {key val : ByteArray} {ws : List ByteArray} {P : ByteArray → Prop} (h : ∀ w ∈ ws, P w) (hn : has = true → P (word key val)) : ∀ w ∈ more has key val ws, P w := by
  unfold more
  split
  · intro w hw
    rcases List.mem_append.1 hw with hw | hw
    · exact h w hw
    · simp at hw; subst hw; exact hn (by assumption)
  · exact h
/-- The words of a message, out of what it says. -/
noncomputable def Ml.words (m : Ml) : List ByteArray := words8 m.hS m.hF m.hU m.hB m.hP m.body m.ret m.envid m.mode (itoaB m.s) (encB m.envid) (itoaB m.f) (dateB m.u) (itoaB m.b) (itoaB m.p)
noncomputable def Ml.text (m : Ml) : ByteArray := mailText m.hS m.hF m.hU m.hB m.hP m.s m.f m.u m.b m.p m.body m.ret m.envid m.mode
theorem text_words (m : Ml) : m.text = joinB m.words ⟨#[32]⟩ := rfl
theorem empty_ne {s : ByteArray} (h : (!s.toList.isEmpty) = true) : s ≠ ⟨#[]⟩ := by
  rintro rfl
  rw [Lib.toList_data] at h
  simp at h
theorem empty_eq {s : ByteArray} (h : (!s.toList.isEmpty) = false) : s = ⟨#[]⟩ := by
  rw [Lib.toList_data] at h
  simp at h
  exact ByteArray.ext (by simpa using h)
theorem up_dg (n : Int) : Txt.up (DtCal.dg n) = DtCal.dg n ∧ DtCal.dg n ≠ 32 := by
  have h := DtCal.dg_val n
  constructor
  · exact Txt.up_not (by omega)
  · intro e
    rw [e] at h
    have : ((32 : UInt8).toNat : Int) = 32 := rfl
    omega
theorem upper_text (t : Int) : Txt.upper (DtCal.text t) = DtCal.text t := by
  unfold DtCal.text DtCal.textOf Txt.upper
  simp only [List.map_cons, List.map_nil, (up_dg _).1]
  rfl
theorem text_no32 (t : Int) : 32 ∉ DtCal.text t := by
  unfold DtCal.text DtCal.textOf
  intro h
  simp only [List.mem_cons, List.not_mem_nil, or_false] at h
  have hd := fun n => (up_dg n).2.symm
  simp only [hd, false_or] at h
  revert h
  decide
theorem up_text (u : Int) (h0 : 0 ≤ u) (h1 : u ≤ 253402300799) : DtCal.parse (Txt.upper (dateB u).data.toList) = (u, 0) := by
  have : (dateB u).data.toList = DtCal.text u := by unfold dateB; rw [if_pos ⟨h0, by omega⟩]
  rw [this, upper_text, DtCal.parse_text u h0 (by omega)]
theorem words_run (m : Ml) (h : MOk m) : ∃ seen, ∀ rest, wordsRun mailPlain (m.words ++ rest) [] Ml.zero = wordsRun mailPlain rest seen m := by
  obtain ⟨hS, hF, hU, hB, hP, s, f, u, b, p, body, ret, envid, mode⟩ := m
  obtain ⟨e1, e2, e3, e4, e5, e6, e7, e8⟩ := h
  simp only at e1 e2 e3 e4 e5 e6 e7 e8
  have r0 : ∀ rest, wordsRun mailPlain ([] ++ rest) [] Ml.zero = wordsRun mailPlain rest [] Ml.zero := fun rest => rfl
  obtain ⟨s1, r1, m1⟩ := more_runs (old := []) (x' := { Ml.zero with hS := hS, s := s }) r0 (fun y hy => hy) hS ⟨#[83, 73, 90, 69]⟩ (itoaB s) (by decide) (by rfl) (by simp) ⟨⟨#[83, 73, 90, 69]⟩, 0, #[], stSize⟩ (by rfl)
    (by rintro rfl
        rcases e1 with k | ⟨_, k1, k2⟩
        · cases k.1
        · show ({ Ml.zero with hS := true, s := (Txt.number (Lib.itoa s)).1 }, (Txt.number (Lib.itoa s)).2) = _
          rw [Txt.number_itoa s k1 k2])
    (by rintro rfl
        rcases e1 with k | k
        · rw [k.2]; rfl
        · cases k.1)
  clear r0
  obtain ⟨s2, r2, m2⟩ := more_runs (x' := { Ml.zero with hS := hS, s := s, body := body }) r1 m1 (!body.toList.isEmpty) ⟨#[66, 79, 68, 89]⟩ body (by decide) (by rfl) (by simp) ⟨⟨#[66, 79, 68, 89]⟩, 0, #[], stBody⟩ (by rfl)
    (by intro q
        rcases e6 with k | k
        · exact absurd k (empty_ne q)
        · simp only [List.mem_cons, List.not_mem_nil, or_false] at k
          rcases k with rfl | rfl <;> rfl)
    (by intro q; rw [empty_eq q]; rfl)
  clear r1 m1
  obtain ⟨s3, r3, m3⟩ := more_runs (x' := { Ml.zero with hS := hS, s := s, body := body, ret := ret }) r2 m2 (!ret.toList.isEmpty) ⟨#[82, 69, 84]⟩ ret (by decide) (by rfl) (by simp) ⟨⟨#[82, 69, 84]⟩, 0, #[], stRet⟩ (by rfl)
    (by intro q
        rcases e7 with k | k
        · exact absurd k (empty_ne q)
        · simp only [List.mem_cons, List.not_mem_nil, or_false] at k
          rcases k with rfl | rfl <;> rfl)
    (by intro q; rw [empty_eq q]; rfl)
  clear r2 m2
  obtain ⟨s4, r4, m4⟩ := more_runs (x' := { Ml.zero with hS := hS, s := s, body := body, ret := ret, envid := envid }) r3 m3 (!envid.toList.isEmpty) ⟨#[69, 78, 86, 73, 68]⟩ (encB envid) (by decide) (by rfl) (by simp) ⟨⟨#[69, 78, 86, 73, 68]⟩, 0, #[], stEnvid⟩ (by rfl)
    (by intro q
        have hne := empty_ne q
        have hd : decoded (encB envid).data.toList 100 = (envid.data.toList, 0) := by
          unfold decoded
          rw [show (encB envid).data.toList = Tx.enc envid.data.toList from rfl, Tx.dec_enc]
          cases hl : envid.data.toList with
          | nil => exact absurd (ByteArray.ext (Array.toList_inj.1 hl)) hne
          | cons c r =>
            have hz : envid.data.toList.length = envid.size := by simp
            rw [hl] at hz
            simp only
            rw [if_neg (by omega)]
        show ({ ({ Ml.zero with hS := hS, s := s, body := body, ret := ret } : Ml) with envid := ⟨(decoded (encB envid).data.toList 100).1.toArray⟩ }, (decoded (encB envid).data.toList 100).2) = _
        rw [hd])
    (by intro q; rw [empty_eq q]; rfl)
  clear r3 m3
  obtain ⟨s5, r5, m5⟩ := more_runs (x' := { Ml.zero with hS := hS, s := s, body := body, ret := ret, envid := envid, hF := hF, f := f }) r4 m4 hF ⟨#[72, 79, 76, 68, 70, 79, 82]⟩ (itoaB f) (by decide) (by rfl) (by simp) ⟨⟨#[72, 79, 76, 68, 70, 79, 82]⟩, 0, #[], stFor⟩ (by rfl)
    (by rintro rfl
        rcases e2 with k | ⟨_, k1, k2⟩
        · cases k.1
        · have hd : forN (itoaB f) = (f, 0) := by
            show within (Txt.number (Lib.itoa f)).1 (Txt.number (Lib.itoa f)).2 1 1048576 = _
            rw [Txt.number_itoa f (by omega) (by omega)]
            unfold within
            rw [if_neg (by simp), if_neg (by omega)]
          show ({ ({ Ml.zero with hS := hS, s := s, body := body, ret := ret, envid := envid } : Ml) with hF := true, f := (forN (itoaB f)).1 }, (forN (itoaB f)).2) = _
          rw [hd])
    (by rintro rfl
        rcases e2 with k | k
        · rw [k.2]; rfl
        · cases k.1)
  clear r4 m4
  obtain ⟨s6, r6, m6⟩ := more_runs (x' := { Ml.zero with hS := hS, s := s, body := body, ret := ret, envid := envid, hF := hF, f := f, hU := hU, u := u }) r5 m5 hU ⟨#[72, 79, 76, 68, 85, 78, 84, 73, 76]⟩ (dateB u) (by decide) (by rfl) (by simp) ⟨⟨#[72, 79, 76, 68, 85, 78, 84, 73, 76]⟩, 0, #[], stUntil⟩ (by rfl)
    (by rintro rfl
        rcases e3 with k | ⟨_, k1, k2⟩
        · cases k.1
        · show ({ ({ Ml.zero with hS := hS, s := s, body := body, ret := ret, envid := envid, hF := hF, f := f } : Ml) with hU := true, u := (DtCal.parse (Txt.upper (dateB u).data.toList)).1 }, (DtCal.parse (Txt.upper (dateB u).data.toList)).2) = _
          rw [up_text u k1 k2])
    (by rintro rfl
        rcases e3 with k | k
        · rw [k.2]; rfl
        · cases k.1)
  clear r5 m5
  obtain ⟨s7, r7, m7⟩ := more_runs (x' := { Ml.zero with hS := hS, s := s, body := body, ret := ret, envid := envid, hF := hF, f := f, hU := hU, u := u, hB := hB, b := b, mode := mode }) r6 m6 hB ⟨#[66, 89]⟩ (itoaB b ++ ⟨#[59]⟩ ++ mode) (by decide) (by rfl) (by simp) ⟨⟨#[66, 89]⟩, 0, #[], stBy⟩ (by rfl)
    (by rintro rfl
        rcases e4 with k | ⟨_, k0, k1, k2⟩
        · cases k.1
        · have hlo : -999999999 ≤ least mode := by unfold least; split <;> omega
          have hcut : Lib.cut (itoaB b ++ ⟨#[59]⟩ ++ mode).data.toList [59] = (Lib.itoa b, mode.data.toList, true) := by
            have : (itoaB b ++ ⟨#[59]⟩ ++ mode).data.toList = Lib.itoa b ++ 59 :: mode.data.toList := by simp [itoaB]
            rw [this, Tok.cut_eq]
            exact Tok.cut_at _ (Txt.itoa_not b 59 (by decide) (by decide))
          have hm : byMode (itoaB b ++ ⟨#[59]⟩ ++ mode) = (mode, 0) := by
            unfold byMode
            rw [hcut]
            simp only [modes, List.mem_cons, List.not_mem_nil, or_false] at k0
            rcases k0 with rfl | rfl | rfl | rfl <;> rfl
          have hn : byN (itoaB b ++ ⟨#[59]⟩ ++ mode) = (b, 0) := by
            unfold byN
            rw [hm, hcut]
            simp only
            rw [signed_itoa b (by omega) k2]
            show within b 0 (least mode) 999999999 = _
            unfold within
            rw [if_neg (by simp), if_neg (by omega)]
          show stBy _ _ = _
          unfold stBy
          rw [hm, hn]
          rfl)
    (by rintro rfl
        rcases e4 with k | k
        · rw [k.2.1, k.2.2]; rfl
        · cases k.1)
  clear r6 m6
  obtain ⟨s8, r8, m8⟩ := more_runs (x' := ⟨hS, hF, hU, hB, hP, s, f, u, b, p, body, ret, envid, mode⟩) r7 m7 hP ⟨#[77, 84, 45, 80, 82, 73, 79, 82, 73, 84, 89]⟩ (itoaB p) (by decide) (by rfl) (by simp) ⟨⟨#[77, 84, 45, 80, 82, 73, 79, 82, 73, 84, 89]⟩, 0, #[], stPri⟩ (by rfl)
    (by rintro rfl
        rcases e5 with k | ⟨_, k1, k2⟩
        · cases k.1
        · have hd : priN (itoaB p) = (p, 0) := by
            show within (signed (Lib.itoa p)).1 (signed (Lib.itoa p)).2 (-9) 9 = _
            rw [signed_itoa p (by omega) (by omega)]
            unfold within
            rw [if_neg (by simp), if_neg (by omega)]
          show ({ ({ Ml.zero with hS := hS, s := s, body := body, ret := ret, envid := envid, hF := hF, f := f, hU := hU, u := u, hB := hB, b := b, mode := mode } : Ml) with hP := true, p := (priN (itoaB p)).1 }, (priN (itoaB p)).2) = _
          rw [hd])
    (by rintro rfl
        rcases e5 with k | k
        · rw [k.2]; rfl
        · cases k.1)
  exact ⟨s8, r8⟩
theorem no32_word {key val : ByteArray} (hk : 61 ∉ key.data.toList) (h1 : 32 ∉ key.data.toList) (h2 : 32 ∉ val.data.toList) : 32 ∉ (word key val).data.toList := by
  rw [(word_cuts key val hk).2.2.2, List.mem_append, List.mem_cons, not_or, not_or]
  exact ⟨h1, by decide, h2⟩
theorem words_no32 (m : Ml) (h : MOk m) : ∀ w ∈ m.words, 32 ∉ w.data.toList := by
  have hi : ∀ n, 32 ∉ (itoaB n).data.toList := fun n => Txt.itoa_not n 32 (by decide) (by decide)
  have hb : 32 ∉ m.body.data.toList := by
    rcases h.body with k | k
    · rw [k]; simp
    · simp only [List.mem_cons, List.not_mem_nil, or_false] at k
      rcases k with k | k <;> rw [k] <;> decide
  have hr : 32 ∉ m.ret.data.toList := by
    rcases h.ret with k | k
    · rw [k]; simp
    · simp only [List.mem_cons, List.not_mem_nil, or_false] at k
      rcases k with k | k <;> rw [k] <;> decide
  have hm : 32 ∉ m.mode.data.toList := by
    rcases h.b with k | k
    · rw [k.2.2]; simp
    · have k0 := k.2.1
      simp only [modes, List.mem_cons, List.not_mem_nil, or_false] at k0
      rcases k0 with k | k | k | k <;> rw [k] <;> decide
  have hu : 32 ∉ (dateB m.u).data.toList := by
    unfold dateB
    show 32 ∉ (if 0 ≤ m.u ∧ m.u < 253402300800 then DtCal.text m.u else [])
    split
    · exact text_no32 _
    · simp
  unfold Ml.words words8
  refine more_mem (more_mem (more_mem (more_mem (more_mem (more_mem (more_mem (more_mem (by simp) ?_) ?_) ?_) ?_) ?_) ?_) ?_) ?_
  · exact fun _ => no32_word (by decide) (by decide) (hi _)
  · exact fun _ => no32_word (by decide) (by decide) hb
  · exact fun _ => no32_word (by decide) (by decide) hr
  · exact fun _ => no32_word (by decide) (by decide) (Tx.enc_no32 _)
  · exact fun _ => no32_word (by decide) (by decide) (hi _)
  · exact fun _ => no32_word (by decide) (by decide) hu
  · refine fun _ => no32_word (by decide) (by decide) ?_
    simp only [ByteArray.data_append, Array.toList_append, List.mem_append, not_or]
    exact ⟨⟨hi _, by decide⟩, hm⟩
  · exact fun _ => no32_word (by decide) (by decide) (hi _)
theorem words_full (m : Ml) : ∀ w ∈ m.words, w.data.toList ≠ [] := by
  have hw : ∀ key val : ByteArray, (word key val).data.toList ≠ [] := fun key val => by simp [word]
  unfold Ml.words words8
  exact more_mem (more_mem (more_mem (more_mem (more_mem (more_mem (more_mem (more_mem (by simp) (fun _ => hw _ _)) (fun _ => hw _ _)) (fun _ => hw _ _)) (fun _ => hw _ _)) (fun _ => hw _ _)) (fun _ => hw _ _)) (fun _ => hw _ _)) (fun _ => hw _ _)
/-- What was printed is parsed. -/
theorem parse_printed (m : Ml) (h : m.right = 0) : parseMail m.text = (m, 0) := by
  obtain ⟨hok, hn⟩ := right_zero m h
  obtain ⟨seen, hrun⟩ := words_run m hok
  have h0 : wordsRun mailPlain m.words [] Ml.zero = (m, 0) := by
    have := hrun []
    rw [List.append_nil] at this
    rw [this]
    rfl
  have hall : wordsAll mailPlain m.text Ml.zero = (m, 0) := by
    rw [text_words]
    unfold wordsAll
    by_cases hw : m.words = []
    · rw [hw] at h0 ⊢
      rw [if_pos (by rfl)]
      exact h0
    · rw [if_neg (joinB_ne _ _ hw (words_full m)), parts_join 32 m.words hw (words_no32 m hok)]
      exact h0
  unfold parseMail
  rw [hall]
  simp only
  rw [if_neg (by simp), if_neg hn]
end Pm
end Go.Proofs.YtfffdbjfhdkheaaGreatDoor
