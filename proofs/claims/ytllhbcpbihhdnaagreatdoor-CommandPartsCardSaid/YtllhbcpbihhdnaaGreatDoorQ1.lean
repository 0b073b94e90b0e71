/-
  Texts cut, and split, at a byte: plain words and laws.
  Plain words on texts: capital letters, digits.
  Where mail goes, plain: Domain, Right, Print, Parse; what was printed is parsed, what is parsed is right.
  A range over a function whose iterator writes cells of its own between two rounds (a captured variable): the iterator's promise, and the law of the statement.
  Plain words on what a call may have changed in memory: all that lay there but some named blocks is as it was.
  What stands in the midst of a call: below all is as it was, and blocks of the call's own.
  strings.SplitSeq at a separator of one byte: what its iterator promises.
  Texts in capital letters: the walks of param.upper and command.upper.
  Maps with texts as keys, laid out whole: what a literal's entries leave, and what a look-up finds.
  Contracts of Go's library in the form that the walks here want: what is told, and that all that lay there is as it was.
  What lies in memory of the library's own, as the layers' walks want it: shapes, and strconv's table; kept by all that leaves what lay below.
  Walks of the package param: words: whatever a key's value does to what its functions keep.
  Walks of the package param: words, in one.
  Signs: the walks of xtext.plain and path.letter; a type's name: param.typed.
  strings.Builder: WriteByte laid at this dump; what a builder of the call's own holds.
  xtext.Encode: the walk.
  xtext.Decode: plain words; its closure.
  Numbers of digits: the walk of param.number.
  Walks of the package param: small functions.
  Walks of the package param: signed, within, name.
  The plain side of the package date: month lengths, digits.
  Lemmas on the way to the date laws (DtNum): what each function does, walked once, and plain laws of dates.
  Regions that draw their order, whose own operations leave the world alone, and whose calls lead from a class of worlds into it: one walk in the order of the text.
  Steps of a walk that are taken whole: an operation whose value is known, a struct stored into a block just made, a struct loaded.
  Steps of a walk that are taken whole: a struct stored into a block that lies there, an entry inserted into a map, a result that lies in a block.
  Slices of texts that lie in memory: what they read as.
  Stores into blocks of a call's own.
  A row of texts that grows: append of one text; what else lies in memory.
  append of many texts, in a plain region.
  What is kept in the midst of a law: blocks and texts, whatever memory is made.
  append of any texts to a row of the call's own, in a plain region.
  Walks of the package param: the closure that adds a word.
  Walks of the package param: Join of a row; what lies in memory in PrintMail.
  Plain laws of dates: what is printed is parsed, zones, and the order of texts. No program stands here.
  append of one text, at a region that draws its order.
  Capital letters: the walk of command.upper.
-/
import Derived.Lib.Split
import Derived.Lib.CountLaws
import Derived.WalkKit
import Derived.Lib.IndexAny
import Derived.Lib.Case
import Derived.RangeFuncWrites
import Derived.WalkSpells
import Derived.WalkLawsBesides
import Derived.Lib.ConvBytes
import Derived.OneCell
import Derived.Lib.Hide
import Derived.Test.YtllhbcpbihhdnaaGreatDoorShelf
import Derived.RangeFuncNested
import Derived.RangeFuncBound
import Derived.RangeFuncCalls
import Derived.RangeFuncLeaves
import Derived.Shelf.Abstract
import Derived.Shelf.RegionOpen
import Derived.OwnWalkIn
import Derived.TacticsInMore
import Derived.LoopNIn
import Derived.LoopIn
import Derived.Deep.QuietTactic
import Derived.BigQuiet
import Derived.MapKept
import Derived.Test.YtllhbcpbihhdnaaGreatDoorRows
import Derived.WalkSmall
import Derived.Lib.LaidTab
import Derived.Sort.Grow
import Derived.Stop.LaidErr
import Derived.ChangeAgain
import Derived.Maps.OwnIn
import Derived.Deep.AppendLies
import Derived.Deep.Onto
import Derived.Lib.ItoaNum
import Derived.Lib.Repeat
import Derived.Deep.MidRow
import Derived.Deep.WholeRow
import Derived.RegionTactic
import Derived.Deep.RegionHeld3
import Derived.OwnWalk
import Derived.Laws.AppendOwn
import Derived.RowKit3
import Derived.Deep.Upon
import Derived.Below
import GoSem.Op.String
section
set_option linter.unusedVariables false
set_option linter.unusedSimpArgs false
namespace Tok
open Go.Lib
/-- What stands ahead of the first such byte, behind it, and is there one? -/
def cut (c : UInt8) : List UInt8 → List UInt8 × List UInt8 × Bool
  | [] => ([], [], false)
  | x :: l => if x = c then ([], l, true) else (x :: (cut c l).1, (cut c l).2.1, (cut c l).2.2)
theorem index_nonneg {l : List UInt8} {c : UInt8} : 0 ≤ indexByte l c ∨ indexByte l c = -1 := by have := indexByte_ge l c; omega
theorem cut_index (c : UInt8) (l : List UInt8) : (if 0 ≤ indexByte l c then (l.take (indexByte l c).toNat, l.drop ((indexByte l c).toNat + 1), true) else (l, [], false)) = cut c l := by
  induction l with
  | nil => simp [indexByte, cut]
  | cons x l ih =>
    unfold cut
    by_cases h : x = c
    · subst h
      simp [indexByte]
    · rw [if_neg h, ← ih]
      have hb : (x == c) = false := by simpa using h
      rcases index_nonneg (l := l) (c := c) with h0 | h0
      · have h1 : (indexByte l c == -1) = false := by simp; omega
        have e : indexByte (x :: l) c = indexByte l c + 1 := by simp [indexByte, hb, h1]
        have e2 : (indexByte l c + 1).toNat = (indexByte l c).toNat + 1 := by omega
        rw [e, if_pos (by omega), if_pos h0, e2]
        simp
      · have e : indexByte (x :: l) c = -1 := by simp [indexByte, hb, h0]
        rw [e, h0]
        simp
theorem cut_eq (c : UInt8) (l : List UInt8) : Go.Lib.cut l [c] = cut c l := by
  rw [← cut_index]
  unfold Go.Lib.cut
  rw [index_one]
  rfl
/-- The parts of a text between such bytes. -/
def split (c : UInt8) (l : List UInt8) : List (List UInt8) :=
  match l with
  | [] => [[]]
  | x :: l => if x = c then [] :: split c l else match split c l with
    | [] => [[x]]
    | p :: r => (x :: p) :: r
theorem split_ne (c : UInt8) (l : List UInt8) : split c l ≠ [] := by
  cases l with
  | nil => simp [split]
  | cons x l =>
    unfold split
    split
    · simp
    · split <;> simp
theorem split_no {c : UInt8} {l : List UInt8} (h : c ∉ l) : split c l = [l] := by
  induction l with
  | nil => rfl
  | cons x l ih =>
    simp only [List.mem_cons, not_or] at h
    unfold split
    rw [if_neg (fun e => h.1 e.symm), ih h.2]
theorem split_at {c : UInt8} {p : List UInt8} (r : List UInt8) (h : c ∉ p) : split c (p ++ c :: r) = p :: split c r := by
  induction p with
  | nil => show split c (c :: r) = _; rw [split, if_pos rfl]
  | cons x p ih =>
    simp only [List.mem_cons, not_or] at h
    show split c (x :: (p ++ c :: r)) = _
    rw [split, if_neg (fun e => h.1 e.symm), ih h.2]
theorem cut_at {c : UInt8} {p : List UInt8} (r : List UInt8) (h : c ∉ p) : cut c (p ++ c :: r) = (p, r, true) := by
  induction p with
  | nil => simp [cut]
  | cons x p ih =>
    simp only [List.mem_cons, not_or] at h
    simp only [List.cons_append, cut]
    rw [if_neg (fun e => h.1 e.symm), ih h.2]
theorem cut_no {c : UInt8} {l : List UInt8} (h : c ∉ l) : cut c l = (l, [], false) := by
  induction l with
  | nil => rfl
  | cons x l ih =>
    simp only [List.mem_cons, not_or] at h
    simp only [cut]
    rw [if_neg (fun e => h.1 e.symm), ih h.2]
/-- What a cut tells. -/
theorem cut_yes {c : UInt8} {l : List UInt8} (h : (cut c l).2.2 = true) : l = (cut c l).1 ++ c :: (cut c l).2.1 ∧ c ∉ (cut c l).1 := by
  induction l with
  | nil => simp [cut] at h
  | cons x l ih =>
    unfold cut at h ⊢
    by_cases hx : x = c
    · subst hx; simp
    · rw [if_neg hx] at h ⊢
      have := ih h
      refine ⟨by rw [List.cons_append, ← this.1], ?_⟩
      simp only [List.mem_cons, not_or]
      exact ⟨fun e => hx e.symm, this.2⟩
theorem mem_or (c : UInt8) (l : List UInt8) : c ∉ l ∨ ∃ p r, l = p ++ c :: r ∧ c ∉ p := by
  by_cases h : (cut c l).2.2 = true
  · exact .inr ⟨_, _, (cut_yes h).1, (cut_yes h).2⟩
  · left
    induction l with
    | nil => simp
    | cons x l ih =>
      unfold cut at h
      by_cases hx : x = c
      · simp [hx] at h
      · rw [if_neg hx] at h
        have := ih h
        simp only [List.mem_cons, not_or]
        exact ⟨fun e => hx e.symm, this⟩
theorem index_at {c : UInt8} {p : List UInt8} (r : List UInt8) (h : c ∉ p) : indexByte (p ++ c :: r) c = p.length := by
  induction p with
  | nil => simp [indexByte]
  | cons x p ih =>
    simp only [List.mem_cons, not_or] at h
    have hb : (x == c) = false := by simpa using fun e => h.1 e.symm
    have h1 : ((p.length : Int) == -1) = false := by first | (simp; done) | (simp; omega)
    simp only [List.cons_append, indexByte, hb, Bool.false_eq_true, if_false, ih h.2, h1, List.length_cons]
    omega
theorem index_no {c : UInt8} {l : List UInt8} (h : c ∉ l) : indexByte l c = -1 := by
  induction l with
  | nil => rfl
  | cons x l ih =>
    simp only [List.mem_cons, not_or] at h
    have hb : (x == c) = false := by simpa using fun e => h.1 e.symm
    simp [indexByte, hb, ih h.2]
theorem data_one (c : UInt8) : (⟨#[c]⟩ : ByteArray).data.toList = [c] := rfl
theorem split_eq (c : UInt8) (n : Nat) : ∀ (s : ByteArray), s.size ≤ n → (splitB ⟨#[c]⟩ 0 (countB s ⟨#[c]⟩) s).map (·.data.toList) = split c s.data.toList ∧ countB s ⟨#[c]⟩ + 1 = (split c s.data.toList).length := by
  induction n with
  | zero =>
    intro s hs
    have hn : c ∉ s.data.toList := by
      intro hm
      have h1 := List.length_pos_of_mem hm
      have h2 : s.data.toList.length = s.size := by simp
      omega
    have hx : indexB s ⟨#[c]⟩ = -1 := by show index _ [c] = _; rw [index_one]; exact index_no hn
    rw [countB_miss s _ hx, splitB_zero, split_no hn]
    exact ⟨rfl, rfl⟩
  | succ n ih =>
    intro s hs
    rcases mem_or c s.data.toList with hn | ⟨p, r, hl, hp⟩
    · have hx : indexB s ⟨#[c]⟩ = -1 := by show index _ [c] = _; rw [index_one]; exact index_no hn
      rw [countB_miss s _ hx, splitB_zero, split_no hn]
      exact ⟨rfl, rfl⟩
    · have hx : indexB s ⟨#[c]⟩ = (p.length : Nat) := by show index _ [c] = _; rw [index_one, hl]; exact index_at r hp
      have hsz : (⟨#[c]⟩ : ByteArray).size = 1 := rfl
      have hlen : s.size = p.length + 1 + r.length := by
        have := congrArg List.length hl
        simp at this
        omega
      have hr : (s.extract (p.length + 1) s.size).data.toList = r := by
        rw [extract_to_end, hl, List.drop_append]
        simp
      have hI := ih (s.extract (p.length + 1) s.size) (by simp; omega)
      rw [hr] at hI
      rw [countB_hit s ⟨#[c]⟩ p.length (by rw [hsz]; omega) hx, hsz, Nat.add_comm 1, splitB_hit _ _ _ _ _ hx, hsz, hl, split_at r hp]
      refine ⟨?_, by rw [List.length_cons, ← hI.2]⟩
      rw [List.map_cons, hI.1, extract_from_zero, hl]
      simp
end Tok
end
section
namespace Txt
def up (c : UInt8) : UInt8 := if 97 ≤ c.toNat ∧ c.toNat ≤ 122 then UInt8.ofNat (c.toNat - 32) else c
theorem up_low {c : UInt8} (h : 97 ≤ c.toNat ∧ c.toNat ≤ 122) : (up c).toNat = c.toNat - 32 := by
  unfold up
  rw [if_pos h]
  simp [UInt8.toNat_ofNat']
  omega
theorem up_not {c : UInt8} (h : ¬ (97 ≤ c.toNat ∧ c.toNat ≤ 122)) : up c = c := by unfold up; rw [if_neg h]
def upper (l : List UInt8) : List UInt8 := l.map up
/-- As far as letter k. -/
def mid (l : List UInt8) (k j : Nat) : Int := if j < k then ((up (l.getD j 0)).toNat : Int) else ((l.getD j 0).toNat : Int)
theorem mid_zero (l : List UInt8) (j : Nat) : mid l 0 j = ((l.getD j 0).toNat : Int) := by unfold mid; simp
theorem mid_at (l : List UInt8) (k : Nat) : mid l k k = ((l.getD k 0).toNat : Int) := by unfold mid; simp
theorem mid_ne (l : List UInt8) (k j : Nat) (h : j ≠ k) : mid l (k + 1) j = mid l k j := by
  unfold mid
  by_cases h1 : j < k
  · rw [if_pos h1, if_pos (by omega)]
  · rw [if_neg h1, if_neg (by omega)]
theorem mid_new (l : List UInt8) (k : Nat) : mid l (k + 1) k = ((up (l.getD k 0)).toNat : Int) := by unfold mid; rw [if_pos (by omega)]
theorem mid_same (l : List UInt8) (k : Nat) (h : up (l.getD k 0) = l.getD k 0) (j : Nat) : mid l (k + 1) j = mid l k j := by
  by_cases e : j = k
  · subst e; rw [mid_new, mid_at, h]
  · exact mid_ne l k j e
def digit (c : UInt8) : Bool := decide (48 ≤ c.toNat ∧ c.toNat ≤ 57)
def dec (l : List UInt8) : Int := l.foldl (fun n c => 10 * n + (c.toNat : Int) - 48) 0
theorem dec_snoc (l : List UInt8) (c : UInt8) : dec (l ++ [c]) = 10 * dec l + (c.toNat : Int) - 48 := by unfold dec; rw [List.foldl_append]; rfl
theorem take_snoc (l : List UInt8) (k : Nat) (h : k < l.length) : l.take (k + 1) = l.take k ++ [l[k]] := List.take_succ_eq_append_getElem h
def plain (c : UInt8) : Bool := decide (32 < c.toNat ∧ c.toNat < 127 ∧ c.toNat ≠ 43 ∧ c.toNat ≠ 61)
def letter (c : UInt8) : Bool := decide (97 ≤ c.toNat ∧ c.toNat ≤ 122 ∨ 65 ≤ c.toNat ∧ c.toNat ≤ 90 ∨ 48 ≤ c.toNat ∧ c.toNat ≤ 57)
/-- A number of at most nine digits; else an error of the form. -/
def number (l : List UInt8) : Int × Int := if l ≠ [] ∧ l.length ≤ 9 ∧ l.all digit = true then (dec l, 0) else (0, 2)
theorem dec_digits (l : List UInt8) (k : Nat) (hk : k ≤ l.length) (h : (l.take k).all digit = true) : 0 ≤ dec (l.take k) ∧ dec (l.take k) + 1 ≤ 10 ^ k := by
  induction k with
  | zero => simp [dec]
  | succ k ih =>
    rw [take_snoc l k (by omega), List.all_append, Bool.and_eq_true] at h
    have h1 := ih (by omega) h.1
    have h2 : digit l[k] = true := by simpa using h.2
    simp only [digit, decide_eq_true_eq] at h2
    rw [take_snoc l k (by omega), dec_snoc, Int.pow_succ]
    omega
theorem pow9 (k : Nat) (h : k ≤ 9) : (10 : Int) ^ k ≤ 1000000000 := by
  have : k = 0 ∨ k = 1 ∨ k = 2 ∨ k = 3 ∨ k = 4 ∨ k = 5 ∨ k = 6 ∨ k = 7 ∨ k = 8 ∨ k = 9 := by omega
  rcases this with rfl | rfl | rfl | rfl | rfl | rfl | rfl | rfl | rfl | rfl <;> decide
end Txt
end
section
set_option linter.unusedVariables false
set_option linter.unusedSimpArgs false
namespace Pt
open Go.Lib
def signsL : List UInt8 := [33, 35, 36, 37, 38, 39, 42, 43, 45, 47, 61, 63, 94, 95, 124, 126, 96, 123, 125]
def post : List UInt8 := [112, 111, 115, 116, 109, 97, 115, 116, 101, 114]
def sgn (b : UInt8) : Bool := decide (0 ≤ indexByte signsL b)
def atomB (b : UInt8) : Bool := Txt.letter b || sgn b
def atomOk (a : List UInt8) : Bool := !a.isEmpty && a.all atomB
/-- Is a text of atoms, with dots between? -/
def atoms (l : List UInt8) : Bool := (Tok.split 46 l).all atomOk
def labB (b : UInt8) : Bool := Txt.letter b || (b == 45)
def labOk (l : List UInt8) : Bool := !l.isEmpty && decide (l.length ≤ 63) && (l.head? != some 45) && (l.getLast? != some 45) && l.all labB
def domOk (l : List UInt8) : Bool := (Tok.split 46 l).all labOk
def domain (l : List UInt8) : List UInt8 × Int := if 255 < l.length then ([], 3) else if domOk l = true then (toLowerA l, 0) else ([], 2)
def shown (l : List UInt8) : Bool := l.all (fun b => decide (32 ≤ b.toNat) && decide (b.toNat ≤ 126))
def right (lo dm : List UInt8) : Int :=
  if 64 < lo.length ∨ 255 < dm.length then 3
  else if dm = [] ∧ (lo = [] ∨ lo = post) then 0
  else if (domain dm).2 ≠ 0 ∨ (domain dm).1 ≠ dm ∨ lo = [] then 2
  else if shown lo = true then 0 else 2
def esc1 (b : UInt8) : List UInt8 := if b = 34 ∨ b = 92 then [92, b] else [b]
def esc (l : List UInt8) : List UInt8 := l.flatMap esc1
def local_ (lo : List UInt8) : List UInt8 := if atoms lo = true then lo else 34 :: (esc lo ++ [34])
def text (lo dm : List UInt8) : List UInt8 := if dm = [] then 60 :: (lo ++ [62]) else 60 :: (local_ lo ++ 64 :: (dm ++ [62]))
def print (lo dm : List UInt8) : List UInt8 × Int := if right lo dm ≠ 0 then ([], right lo dm) else (text lo dm, 0)
/-- The text between two quotes, and what is behind. -/
def qrun : List UInt8 → List UInt8 → Option (List UInt8 × List UInt8)
  | [], _ => none
  | [c], acc => if c = 34 then some (acc, []) else none
  | c :: d :: r, acc => if c = 34 then some (acc, d :: r) else if c = 92 then (if 32 ≤ d.toNat ∧ d.toNat ≤ 126 then qrun r (acc ++ [d]) else none) else if 32 ≤ c.toNat ∧ c.toNat ≤ 126 then qrun (d :: r) (acc ++ [c]) else none
def bad (e : Int) : (List UInt8 × List UInt8) × List UInt8 × Int := (([], []), [], e)
def shaped (l : List UInt8) : Bool := (Tok.split 46 l).all (fun x => decide ((domain x).2 = 0))
/-- Behind the local part: a domain, and what stands behind it. -/
def behind (lo rest : List UInt8) : (List UInt8 × List UInt8) × List UInt8 × Int :=
  if (Tok.cut 62 rest).2.2 = false then bad 2
  else match (Tok.cut 62 rest).1 with
    | 64 :: dom =>
      if ((domain dom).2 = 3 ∧ shaped dom = true) ∨ ((domain dom).2 = 0 ∧ 64 < lo.length) then bad 3
      else if (domain dom).2 ≠ 0 then bad 2
      else ((lo, (domain dom).1), (Tok.cut 62 rest).2.1, 0)
    | _ => bad 2
def plainly (t : List UInt8) : (List UInt8 × List UInt8) × List UInt8 × Int :=
  if indexAny t [64, 62] < 0 ∨ atoms (t.take (indexAny t [64, 62]).toNat) = false then bad 2
  else match t.drop (indexAny t [64, 62]).toNat with
    | 62 :: b => if toLowerA (t.take (indexAny t [64, 62]).toNat) ≠ post then bad 2 else ((post, []), b, 0)
    | rest => behind (t.take (indexAny t [64, 62]).toNat) rest
def quoted (q : List UInt8) : (List UInt8 × List UInt8) × List UInt8 × Int :=
  match qrun q [] with
  | some (lo, rest) => if lo = [] then bad 2 else behind lo rest
  | none => bad 2
def parse (s : List UInt8) : (List UInt8 × List UInt8) × List UInt8 × Int :=
  match s with
  | 60 :: 62 :: r => (([], []), r, 0)
  | 60 :: 34 :: q => quoted q
  | 60 :: t => plainly t
  | _ => bad 2
-- ---- laws
theorem all_split {c : UInt8} {p : UInt8 → Bool} : ∀ l : List UInt8, (Tok.split c l).all (·.all p) = true → ∀ b ∈ l, b = c ∨ p b = true
  | [], _ => fun b h => by cases h
  | x :: l, h => by
    unfold Tok.split at h
    by_cases hx : x = c
    · rw [if_pos hx, List.all_cons, Bool.and_eq_true] at h
      intro b hb
      rcases List.mem_cons.1 hb with rfl | hb
      · exact .inl hx
      · exact all_split l h.2 b hb
    · rw [if_neg hx] at h
      cases hs : Tok.split c l with
      | nil => exact absurd hs (Tok.split_ne c l)
      | cons q r =>
        rw [hs] at h
        simp only [List.all_cons, Bool.and_eq_true] at h
        intro b hb
        rcases List.mem_cons.1 hb with rfl | hb
        · exact .inr h.1.1
        · exact all_split l (by rw [hs, List.all_cons, Bool.and_eq_true]; exact ⟨h.1.2, h.2⟩) b hb
theorem all_weak {α : Type} {p q : α → Bool} {l : List α} (h : l.all p = true) (hpq : ∀ x, p x = true → q x = true) : l.all q = true := by
  rw [List.all_eq_true] at h ⊢
  exact fun x hx => hpq x (h x hx)
theorem atoms_bytes {l : List UInt8} (h : atoms l = true) : ∀ b ∈ l, b = 46 ∨ atomB b = true :=
  all_split l (all_weak h (fun a ha => by unfold atomOk at ha; rw [Bool.and_eq_true] at ha; exact ha.2))
theorem dom_bytes {l : List UInt8} (h : domOk l = true) : ∀ b ∈ l, b = 46 ∨ labB b = true :=
  all_split l (all_weak h (fun a ha => by unfold labOk at ha; rw [Bool.and_eq_true] at ha; exact ha.2))
theorem atoms_ne {l : List UInt8} (h : atoms l = true) : l ≠ [] := by
  rintro rfl
  exact absurd h (by decide)
theorem dom_ne {l : List UInt8} (h : domOk l = true) : l ≠ [] := by
  rintro rfl
  exact absurd h (by decide)
theorem all8 {P : UInt8 → Prop} (h : ∀ n : Fin 256, P (UInt8.ofNat n.val)) (b : UInt8) : P b := by
  have := h ⟨b.toNat, b.toNat_lt⟩
  simpa using this
theorem atomB_not : ∀ b : UInt8, atomB b = true → b ≠ 64 ∧ b ≠ 62 ∧ b ≠ 34 ∧ 32 ≤ b.toNat ∧ b.toNat ≤ 126 := all8 (of_decide_eq_true (by kernel_rfl))
theorem labB_not : ∀ b : UInt8, labB b = true → b ≠ 64 ∧ b ≠ 62 ∧ b ≠ 34 ∧ b ≠ 32 ∧ b.toNat ≤ 126 ∧ labB (lowerB b) = true ∧ (lowerB b = 45 ↔ b = 45) ∧ lowerB (lowerB b) = lowerB b ∧ b ≠ 46 ∧ lowerB b ≠ 46 := all8 (of_decide_eq_true (by kernel_rfl))
theorem atoms_no {l : List UInt8} (h : atoms l = true) : 64 ∉ l ∧ 62 ∉ l ∧ 34 ∉ l ∧ shown l = true := by
  have hb := atoms_bytes h
  refine ⟨fun q => ?_, fun q => ?_, fun q => ?_, ?_⟩
  · rcases hb _ q with k | k
    · exact absurd k (by decide)
    · exact (atomB_not _ k).1 rfl
  · rcases hb _ q with k | k
    · exact absurd k (by decide)
    · exact (atomB_not _ k).2.1 rfl
  · rcases hb _ q with k | k
    · exact absurd k (by decide)
    · exact (atomB_not _ k).2.2.1 rfl
  · unfold shown
    rw [List.all_eq_true]
    intro b q
    rcases hb _ q with rfl | k
    · decide
    · have := atomB_not _ k
      simp only [Bool.and_eq_true, decide_eq_true_eq]
      exact ⟨this.2.2.2.1, this.2.2.2.2⟩
theorem dom_no {l : List UInt8} (h : domOk l = true) : 62 ∉ l := by
  intro q
  rcases dom_bytes h _ q with k | k
  · exact absurd k (by decide)
  · exact (labB_not _ k).2.1 rfl
theorem index_any {chars l r : List UInt8} {x : UInt8} (hl : ∀ b ∈ l, b ∉ chars) (hx : x ∈ chars) : indexAny (l ++ x :: r) chars = l.length := by
  induction l with
  | nil => simp [indexAny, hx]
  | cons y l ih =>
    have h1 : chars.contains y = false := by simpa using hl y (by simp)
    have h2 := ih (fun b hb => hl b (List.mem_cons_of_mem _ hb))
    rw [List.cons_append, indexAny, h1, h2]
    have : ((l.length : Int) == -1) = false := by rw [beq_eq_false_iff_ne]; omega
    simp [this]
theorem index_any_not {chars l : List UInt8} {k : Nat} (h : indexAny l chars = (k : Int)) : k < l.length ∧ (∀ b ∈ l.take k, b ∉ chars) ∧ ∃ x r, l.drop k = x :: r ∧ x ∈ chars := by
  induction l generalizing k with
  | nil => simp [indexAny] at h
  | cons y l ih =>
    unfold indexAny at h
    by_cases hy : chars.contains y = true
    · rw [if_pos hy] at h
      have : k = 0 := by omega
      subst this
      exact ⟨by simp, by simp, y, l, rfl, by simpa using hy⟩
    · rw [if_neg hy] at h
      by_cases h1 : (indexAny l chars == -1) = true
      · rw [if_pos h1] at h; omega
      · rw [if_neg h1] at h
        have h2 : indexAny l chars ≠ -1 := by simpa using h1
        have h3 := indexAny_ge chars l
        obtain ⟨j, rfl⟩ : ∃ j, k = j + 1 := ⟨k - 1, by omega⟩
        have := ih (k := j) (by omega)
        refine ⟨by simp; exact this.1, fun b hb => ?_, this.2.2⟩
        rw [List.take_succ_cons] at hb
        rcases List.mem_cons.1 hb with rfl | hb
        · simpa using hy
        · exact this.2.1 b hb
theorem qrun_quote : ∀ (lo : List UInt8), shown lo = true → ∀ acc rest, qrun (esc lo ++ 34 :: rest) acc = some (acc ++ lo, rest) := by
  intro lo
  induction lo with
  | nil =>
    intro _ acc rest
    show qrun (34 :: rest) acc = _
    cases rest with
    | nil => simp [qrun]
    | cons d r => simp [qrun]
  | cons b lo ih =>
    intro h acc rest
    unfold shown at h
    rw [List.all_cons, Bool.and_eq_true] at h
    have hb := h.1
    simp only [Bool.and_eq_true, decide_eq_true_eq] at hb
    have hi := ih h.2
    have hc : ∃ c r, esc lo ++ 34 :: rest = c :: r := by
      cases hh : esc lo ++ 34 :: rest with
      | nil => simp at hh
      | cons c r => exact ⟨c, r, rfl⟩
    obtain ⟨c, r, hc⟩ := hc
    show qrun (esc1 b ++ esc lo ++ 34 :: rest) acc = _
    unfold esc1
    split
    · rw [List.append_assoc, hc]
      show qrun (92 :: b :: c :: r) acc = _
      rw [qrun, if_neg (by decide), if_pos rfl, if_pos hb, ← hc, hi]
      simp
    · rename_i hne
      rw [List.append_assoc, hc]
      show qrun (b :: c :: r) acc = _
      rw [qrun, if_neg (fun e => hne (.inl e)), if_neg (fun e => hne (.inr e)), if_pos hb, ← hc, hi]
      simp
theorem right_cases {lo dm : List UInt8} (h : right lo dm = 0) : lo.length ≤ 64 ∧ dm.length ≤ 255 ∧ ((dm = [] ∧ (lo = [] ∨ lo = post)) ∨ (domain dm = (dm, 0) ∧ lo ≠ [] ∧ shown lo = true)) := by
  unfold right at h
  split at h
  · omega
  · rename_i h1
    refine ⟨by omega, by omega, ?_⟩
    split at h
    · rename_i h2; exact .inl h2
    · split at h
      · omega
      · rename_i h3
        split at h
        · rename_i h4
          refine .inr ⟨?_, fun e => h3 (.inr (.inr e)), h4⟩
          have h5 : (domain dm).2 = 0 := Classical.byContradiction fun q => h3 (.inl q)
          have h6 : (domain dm).1 = dm := Classical.byContradiction fun q => h3 (.inr (.inl q))
          exact Prod.ext h6 h5
        · omega
theorem domain_ok {l d : List UInt8} (h : domain l = (d, 0)) : l.length ≤ 255 ∧ domOk l = true ∧ d = toLowerA l := by
  unfold domain at h
  split at h
  · cases h
  · split at h
    · rename_i h1 h2
      cases h
      exact ⟨by omega, h2, rfl⟩
    · cases h
theorem behind_of {lo dm rest : List UInt8} (hd : domain dm = (dm, 0)) (hl : lo.length ≤ 64) : behind lo (64 :: (dm ++ 62 :: rest)) = ((lo, dm), rest, 0) := by
  obtain ⟨h1, h2, h3⟩ := domain_ok hd
  have hc : Tok.cut 62 (64 :: dm ++ 62 :: rest) = (64 :: dm, rest, true) := Tok.cut_at rest (by simp; exact dom_no h2)
  have hc2 : Tok.cut 62 (64 :: (dm ++ 62 :: rest)) = (64 :: dm, rest, true) := hc
  unfold behind
  rw [hc2]
  simp only [Bool.true_eq_false, if_false]
  rw [hd]
  rw [if_neg (by intro q; rcases q with q | q; exact absurd (show (0 : Int) = 3 from q.1) (by decide); omega), if_neg (by simp)]
theorem parse_print {lo dm : List UInt8} (h : right lo dm = 0) (rest : List UInt8) : parse (text lo dm ++ rest) = ((lo, dm), rest, 0) := by
  obtain ⟨h1, h2, h3⟩ := right_cases h
  rcases h3 with ⟨rfl, rfl | rfl⟩ | ⟨hd, hne, hs⟩
  · rfl
  · have : text post [] ++ rest = 60 :: (post ++ 62 :: rest) := by simp [text]
    rw [this]
    show plainly (post ++ 62 :: rest) = _
    have hi : indexAny (post ++ 62 :: rest) [64, 62] = ((10 : Nat) : Int) := index_any (chars := [64, 62]) (l := post) (by decide) (by decide)
    unfold plainly
    rw [hi]
    rfl
  · have hdm : dm ≠ [] := by
      obtain ⟨_, k, _⟩ := domain_ok hd
      exact dom_ne k
    unfold text
    rw [if_neg hdm]
    unfold local_
    by_cases ha : atoms lo = true
    · rw [if_pos ha]
      have hn := atoms_no ha
      have e : 60 :: (lo ++ 64 :: (dm ++ [62])) ++ rest = 60 :: (lo ++ 64 :: (dm ++ 62 :: rest)) := by simp
      rw [e]
      have hp : parse (60 :: (lo ++ 64 :: (dm ++ 62 :: rest))) = plainly (lo ++ 64 :: (dm ++ 62 :: rest)) := by
        cases lo with
        | nil => exact absurd rfl hne
        | cons x lo =>
          have hx1 : x ≠ 62 := fun e => hn.2.1 (by simp [e])
          have hx2 : x ≠ 34 := fun e => hn.2.2.1 (by simp [e])
          show parse (60 :: x :: (lo ++ _)) = plainly (x :: (lo ++ _))
          unfold parse
          split
          · rename_i heq; simp at heq; exact absurd heq.1 hx1
          · rename_i heq; simp at heq; exact absurd heq.1 hx2
          · rename_i heq; simp at heq; rw [← heq]
          · rename_i k1 k2 k3; exact absurd rfl (k3 _)
      rw [hp]
      have hi : indexAny (lo ++ 64 :: (dm ++ 62 :: rest)) [64, 62] = (lo.length : Int) := index_any (by intro b hb; simp; exact ⟨fun e => hn.1 (e ▸ hb), fun e => hn.2.1 (e ▸ hb)⟩) (by simp)
      unfold plainly
      simp only [hi, Int.toNat_natCast, List.take_left, List.drop_left]
      rw [if_neg (by rw [ha]; intro q; rcases q with q | q; omega; cases q)]
      exact behind_of hd h1
    · rw [if_neg ha]
      have e : 60 :: (34 :: (esc lo ++ [34]) ++ 64 :: (dm ++ [62])) ++ rest = 60 :: 34 :: (esc lo ++ 34 :: (64 :: (dm ++ 62 :: rest))) := by simp
      rw [e]
      show quoted (esc lo ++ 34 :: (64 :: (dm ++ 62 :: rest))) = _
      unfold quoted
      rw [qrun_quote lo hs]
      simp only [List.nil_append]
      rw [if_neg hne]
      exact behind_of hd h1
-- ---- what is parsed is right
theorem split_map {c : UInt8} {f : UInt8 → UInt8} (hf : ∀ b, f b = c ↔ b = c) : ∀ l : List UInt8, Tok.split c (l.map f) = (Tok.split c l).map (·.map f)
  | [] => rfl
  | x :: l => by
    have ih := split_map hf l
    rw [List.map_cons, Tok.split, Tok.split]
    by_cases hx : x = c
    · rw [if_pos hx, if_pos ((hf x).2 hx), ih]
      rfl
    · rw [if_neg hx, if_neg (fun q => hx ((hf x).1 q)), ih]
      cases Tok.split c l with
      | nil => rfl
      | cons p r => rfl
theorem lower_dot : ∀ b : UInt8, lowerB b = 46 ↔ b = 46 := all8 (of_decide_eq_true (by kernel_rfl))
theorem lower_lab (l : List UInt8) (h : labOk l = true) : labOk (l.map lowerB) = true := by
  unfold labOk at h ⊢
  simp only [Bool.and_eq_true, bne_iff_ne, ne_eq, decide_eq_true_eq, Bool.not_eq_true'] at h ⊢
  obtain ⟨⟨⟨⟨h1, h2⟩, h3⟩, h4⟩, h5⟩ := h
  have h5' := List.all_eq_true.1 h5
  refine ⟨⟨⟨⟨?_, by simpa using h2⟩, ?_⟩, ?_⟩, ?_⟩
  · cases l with
    | nil => cases h1
    | cons x r => rfl
  · cases l with
    | nil => cases h1
    | cons x r =>
      simp at h3 ⊢
      exact fun q => h3 ((labB_not x (h5' x (by simp))).2.2.2.2.2.2.1.1 q)
  · intro q
    rw [List.getLast?_map] at q
    cases hl : l.getLast? with
    | none => rw [hl] at q; cases q
    | some x =>
      rw [hl] at q
      simp at q
      have hm : x ∈ l := List.mem_of_getLast? hl
      have := (labB_not x (h5' x hm)).2.2.2.2.2.2.1.1 q
      subst this
      exact h4 hl
  · rw [List.all_eq_true]
    intro b hb
    obtain ⟨x, hx, rfl⟩ := List.mem_map.1 hb
    exact (labB_not x (h5' x hx)).2.2.2.2.2.1
theorem domain_lower {l d : List UInt8} (h : domain l = (d, 0)) : domain d = (d, 0) ∧ d.length ≤ 255 ∧ d ≠ [] := by
  obtain ⟨h1, h2, rfl⟩ := domain_ok h
  have hlen : (toLowerA l).length = l.length := by simp [toLowerA]
  have hd : domOk (toLowerA l) = true := by
    unfold domOk toLowerA
    rw [split_map lower_dot, List.all_map]
    exact all_weak h2 (fun a ha => lower_lab a ha)
  have hid : toLowerA (toLowerA l) = toLowerA l := by
    unfold toLowerA
    rw [List.map_map]
    refine List.map_congr_left fun b hb => ?_
    rcases dom_bytes h2 b hb with rfl | k
    · decide
    · exact (labB_not b k).2.2.2.2.2.2.2.1
  refine ⟨?_, by omega, dom_ne hd⟩
  unfold domain
  rw [if_neg (by omega), if_pos hd, hid]
theorem behind_ok {lo rest x dm r : List UInt8} (h : behind lo rest = ((x, dm), r, 0)) : x = lo ∧ lo.length ≤ 64 ∧ domain dm = (dm, 0) := by
  unfold behind at h
  split at h
  · cases h
  · split at h
    · rename_i dom heq
      split at h
      · cases h
      · rename_i h1
        split at h
        · cases h
        · rename_i h2
          cases h
          have h3 : (domain dom).2 = 0 := by simpa using h2
          refine ⟨rfl, ?_, (domain_lower (l := dom) (d := (domain dom).1) (Prod.ext rfl h3)).1⟩
          have := fun q => h1 (.inr ⟨h3, q⟩)
          omega
    · cases h
theorem qrun_shown : ∀ (n : Nat) (q acc lo r : List UInt8), q.length ≤ n → shown acc = true → qrun q acc = some (lo, r) → shown lo = true
  | 0, q, acc, lo, r, hn, ha, h => by
    have : q = [] := List.eq_nil_of_length_eq_zero (by omega)
    subst this
    simp [qrun] at h
  | n + 1, q, acc, lo, r, hn, ha, h => by
    have hs : ∀ c : UInt8, 32 ≤ c.toNat ∧ c.toNat ≤ 126 → shown (acc ++ [c]) = true := fun c hc => by
      unfold shown at ha ⊢
      rw [List.all_append, ha]
      simp [hc.1, hc.2]
    match q with
    | [] => simp [qrun] at h
    | [c] =>
      rw [qrun] at h
      split at h
      · cases h; exact ha
      · cases h
    | c :: d :: q =>
      rw [qrun] at h
      split at h
      · cases h; exact ha
      · split at h
        · split at h
          · rename_i hd
            exact qrun_shown n q _ lo r (by simp at hn; omega) (hs d hd) h
          · cases h
        · split at h
          · rename_i hc
            exact qrun_shown n (d :: q) _ lo r (by simp at hn ⊢; omega) (hs c hc) h
          · cases h
theorem right_of {lo dm : List UInt8} (h1 : lo.length ≤ 64) (h2 : domain dm = (dm, 0)) (h3 : lo ≠ []) (h4 : shown lo = true) : right lo dm = 0 := by
  have hl := (domain_ok h2).1
  unfold right
  rw [if_neg (by omega)]
  by_cases hz : dm = [] ∧ (lo = [] ∨ lo = post)
  · rw [if_pos hz]
  · rw [if_neg hz, h2, if_neg (by intro q; rcases q with q | q | q; exact q rfl; exact q rfl; exact h3 q), if_pos h4]
theorem quoted_right {q lo dm r : List UInt8} (h : quoted q = ((lo, dm), r, 0)) : right lo dm = 0 := by
  unfold quoted at h
  split at h
  · rename_i hq
    split at h
    · cases h
    · rename_i hne
      obtain ⟨rfl, h1, h2⟩ := behind_ok h
      exact right_of h1 h2 hne (qrun_shown _ q [] _ _ (Nat.le_refl _) (by rfl) hq)
  · cases h
theorem plainly_right {t lo dm r : List UInt8} (h : plainly t = ((lo, dm), r, 0)) : right lo dm = 0 := by
  unfold plainly at h
  split at h
  · cases h
  · rename_i hat
    have ha : atoms (t.take (indexAny t [64, 62]).toNat) = true := by
      have := fun q => hat (.inr q)
      simpa using this
    split at h
    · split at h
      · cases h
      · cases h; rfl
    · obtain ⟨rfl, h1, h2⟩ := behind_ok h
      exact right_of h1 h2 (atoms_ne ha) (atoms_no ha).2.2.2
theorem parse_right {s lo dm r : List UInt8} (h : parse s = ((lo, dm), r, 0)) : right lo dm = 0 := by
  unfold parse at h
  split at h
  · cases h; rfl
  · exact quoted_right h
  · exact plainly_right h
  · cases h
end Pt
end
section
set_option linter.unusedVariables false
namespace Go
open Go.RowKit
/-- What an iterator promises that takes steps T of its own between two rounds: as SeqStopsK, for whatever J abides T. -/
def SeqC {α : Type} (F : Fence) (n : Nat) (P : Program) (g : Nat) (lb : Array Value) (encs : α → Array Value) (Kp T : World → World → Prop) (S Sp : List α → Prop) (w : World) : Prop :=
  ∀ (l : Nat) (J Jx : List α → World → Prop) (W : World), Below w.heap.size w W → AbidesFrom W.heap.size J → (∀ s A B, J s A → T A B → J s B) →
    (∀ pre x W1, J pre W1 → Sp (pre ++ [x]) → YieldAt F (n - 1) P l (encs x) W1 fun e W' =>
      (e = .returned (.bool true) ∧ J (pre ++ [x]) W' ∧ Kp W1 W') ∨ (e = .returned (.bool false) ∧ Jx (pre ++ [x]) W')) →
    J [] W →
    CallsIn F n P g (#[.func (.yield l) #[] #[]] ++ lb) W fun e W' => (∃ v, e = .returned v) ∧ ((∃ xs, S xs ∧ J xs W') ∨ (∃ pre, Sp pre ∧ Jx pre W'))
/-- The two blocks that the statement lays for itself. -/
structure Book (B : Nat) (r : Loop) (W : World) : Prop where
  loop : W.heap[B + 1]? = some (.loop r)
  dfr : W.heap[B]? = some (.deferred (some []))
theorem Book.step {B : Nat} {r : Loop} {W W' : World} (h : Book B r W) (hk : ∀ (k : Nat) (o : Obj), B ≤ k → W.heap[k]? = some o → o.isCells = false → W'.heap[k]? = some o) : Book B r W' :=
  ⟨hk _ _ (by omega) h.loop rfl, hk _ _ (Nat.le_refl _) h.dfr rfl⟩
theorem Book.turn {B : Nat} {r : Loop} {W : World} (h : Book B r W) (r' : Loop) : Book B r' (W.putObj (B + 1) (.loop r')) :=
  ⟨World.putObj_heap_same (Array.getElem?_eq_some_iff.1 h.loop).1, (World.putObj_heap_other (by omega)).trans h.dfr⟩
theorem Book.laid (w : World) (r : Loop) : Book w.heap.size r ((w.alloc (.deferred (some []))).alloc (.loop r)) :=
  ⟨by have := World.alloc_heap_new (w.alloc (.deferred (some []))) (.loop r); rwa [World.size_alloc] at this, (Below.heap_alloc _ _ _ (by simp)).trans (World.alloc_heap_new w _)⟩
/-- A step of the library's own walks leaves them. -/
theorem Book.grown {B : Nat} {r : Loop} {W W' : World} {row : Option Nat} (h : Book B r W) (hg : W.grownBy W' row) (hr : ∀ k, row = some k → ∃ o : Obj, W.heap[k]? = some o ∧ o.isWalk = true) : Book B r W' :=
  ⟨(grownBy_keeps hg hr h.loop rfl).trans h.loop, (grownBy_keeps hg hr h.dfr rfl).trans h.dfr⟩
variable {F : Fence} {n : Nat} {P : Program}
/-- The statement, over such an iterator. -/
theorem range_cells {α : Type} {g : Operand} {ps : Array Tmp} {assign body : Code} {Q : Exit → Act → World → Prop} {a : Act} {w : World}
    (hro : F.round = none) (h1 : 1 ≤ n) {gf : Nat} {lb : Array Value} (hg : a.eval g = .func (.func gf) #[] lb) (hFg : F.fn gf) (eg : ∀ args w, (callFunc gf args).run P w = .ok (.enter gf args) w)
    {encs : α → Array Value} {Kp T : World → World → Prop} {S Sp : List α → Prop} {w0 : World} (hseq : SeqC F (n - 1) P gf lb encs Kp T S Sp w0)
    (hKt : ∀ {A B C : World}, Kp A B → Kp B C → Kp A C) (hKb : ∀ (W : World) (l : Nat) (o' : Obj), w.heap.size ≤ l → Kp W (W.putObj l o')) (hT : ∀ A B, T A B → KeepsOthers A B) (hb0 : Below w0.heap.size w0 w) (hps : ∀ x, (encs x).size = ps.size)
    (I : List α → World → Prop) (Ix : Code → List α → World → Prop) (hI : OwnFrom w.heap.size I) (hIT : ∀ s A B, I s A → T A B → I s B) (hIx : ∀ c, OwnFrom w.heap.size (Ix c)) (h0 : I [] w) (a₁ : α → Act)
    (hassign : ∀ (l : Nat) (x : α) (W : World) (K : Act → World → Prop), K (a₁ x) W →
      assign.wpIn (F.inRound l) (n - 1 - 1) P (Exit.then K (fun _ _ _ => False)) { tmps := (ps.zip (encs x)).foldl (fun t (p, v) => t.setIfInBounds p v) a.tmps, defers := [] } W)
    (hbody : ∀ (l : Nat) (pre : List α) (x : α) (W : World), I pre W → Sp (pre ++ [x]) → body.wpIn (F.inRound l) (n - 1 - 1) P (ownPostG w.heap.size Kp I Ix (pre ++ [x]) W) (a₁ x) W)
    (hdone : ∀ (D : Nat) (xs : List α) (W : World), w.heap.size ≤ D → S xs → I xs W → W.heap[D]? = some (.deferred (some [])) → Q .normal { a with defers := { target := .collected D, args := #[] } :: a.defers } W)
    (hstop : ∀ (D : Nat) (c : Code) (pre : List α) (W : World), w.heap.size ≤ D → (Ix c pre W ∧ Sp pre) → W.heap[D]? = some (.deferred (some [])) → c.wpIn F n P Q { a with defers := { target := .collected D, args := #[] } :: a.defers } W) :
    (Code.rangeFunc g ps assign body).wpIn F n P Q a w := by
  refine wpIn_rangeFunc fun fn hfn => ?_
  rw [hro]
  let R : LoopState → Option Code → Loop := fun st pe => { state := st, pending := pe, fn := fn, tmps := a.tmps, params := ps, assign := assign, body := body, defers := w.heap.size }
  have hst : ∀ {W : World} {st : LoopState} {pe : Option Code} (o' : Obj) {s : List α}, I s W → Book w.heap.size (R st pe) W → I s (W.putObj (w.heap.size + 1) o') := fun o' _ hi hb => hI.putObj o' hi (by omega) hb.loop rfl
  have hstx : ∀ {W : World} {st : LoopState} {pe : Option Code} (o' : Obj) {c : Code} {s : List α}, Ix c s W → Book w.heap.size (R st pe) W → Ix c s (W.putObj (w.heap.size + 1) o') := fun o' c _ hi hb => (hIx c).putObj o' hi (by omega) hb.loop rfl
  have below1 : Below w0.heap.size w0 ((w.alloc (.deferred (some []))).alloc (.loop (R .ready none))) :=
    hb0.trans ((((Below.refl _ w).alloc (Nat.le_refl _) _).alloc (by simp) _).mono hb0.size)
  refine ⟨w.heap.size + 1, [{ target := .collected w.heap.size, args := #[] }], ((w.alloc (.deferred (some []))).alloc (.loop (R .ready none))), { target := .fn (.func gf) lb, args := #[.func (.yield (w.heap.size + 1)) #[] #[]] }, ((w.alloc (.deferred (some []))).alloc (.loop (R .ready none))), gf, #[.func (.yield (w.heap.size + 1)) #[] #[]] ++ lb, ((w.alloc (.deferred (some []))).alloc (.loop (R .ready none))), run_enterLoop_outer _ _ _ _ _, ?_, ?_, ?_, fun _ => h1, ?_⟩
  · simp only [resolve, hg]
    simp [go_sem]
  · intro f' hf'
    simp [Target.leads] at hf'
    subst hf'
    exact hFg
  · simp [invoke, go_sem, eg]
  refine (hseq (w.heap.size + 1) (fun s W => I s W ∧ Book w.heap.size (R .ready none) W) (fun s W => ∃ c, Ix c s W ∧ Book w.heap.size (R .done (some c)) W) _ below1 ?_ ?_ ?_
    ⟨hI.alloc _ (hI.alloc _ h0), Book.laid w _⟩).mono ?_
  · rintro s A B row ⟨hi, hb⟩ hgr hr
    refine ⟨hI s A B row hi hgr (fun r e => ?_), hb.grown hgr (fun r e => (hr r e).2)⟩
    obtain ⟨h2, o, ho, hw⟩ := hr r e
    simp at h2
    exact ⟨by omega, o, ho, Obj.not_cells_of_walk hw⟩
  · rintro s A B ⟨hi, hb⟩ ht
    exact ⟨hIT s A B hi ht, hb.step (fun k o _ ho hc => (hT A B ht).same k o ho hc)⟩
  · -- a round
    rintro s x W ⟨hi, hb⟩ hlen
    have hbusy := hb.turn (R .busy none)
    refine ⟨fn, _, assign, body, run_yield hb.loop (hps x), roundIn_of_wpIn hfn (hassign _ x W _ ⟨_, run_beginRound hb.loop rfl, ?_⟩)⟩
    refine wpIn_mono (hbody _ s x _ (hst _ hi hb) hlen) ?_
    have hend : ∀ (j : Option Code) (W3 : World), KeepsFrom w.heap.size (W.putObj (w.heap.size + 1) (.loop (R .busy none))) W3 → Book w.heap.size (R .busy none) W3 := fun j W3 hk => hbusy.step hk.same
    rintro e a3 W3 hp
    cases e with
    | normal =>
      have hb3 := hend none W3 hp.1
      exact ⟨_, _, run_endRound none hb3.loop, .inl ⟨rfl, ⟨hst _ hp.2.2 hb3, hb3.turn _⟩, hKt (hKt (hKb _ _ _ (by omega)) hp.2.1) (hKb _ _ _ (by omega))⟩⟩
    | ret =>
      have hb3 := hend (some .ret) W3 hp.1
      exact ⟨_, _, run_endRound (some .ret) hb3.loop, .inr ⟨rfl, .ret, hstx _ hp.2 hb3, hb3.turn _⟩⟩
    | exit id =>
      have hb3 := hend (some (.exit id)) W3 hp.1
      exact ⟨_, _, run_endRound (some (.exit id)) hb3.loop, .inr ⟨rfl, .exit id, hstx _ hp.2 hb3, hb3.turn _⟩⟩
    | goto t =>
      have hb3 := hend (some (.goto t)) W3 hp.1
      exact ⟨_, _, run_endRound (some (.goto t)) hb3.loop, .inr ⟨rfl, .goto t, hstx _ hp.2 hb3, hb3.turn _⟩⟩
    | panic ch => exact hp.elim
    | outgrown => exact hp.elim
  · -- behind the iterator
    rintro e W2 ⟨⟨v, rfl⟩, ⟨xs, hS, hi, hb⟩ | ⟨s, hSp, c, hi, hb⟩⟩
    · exact ⟨none, _, run_endLoop hb.loop (by simp [R]), hdone _ xs _ (Nat.le_refl _) hS (hst _ hi hb) ((hb.turn _).dfr)⟩
    · exact ⟨some c, _, run_endLoop hb.loop (by simp [R]), hstop _ c s _ (Nat.le_refl _) ⟨hstx _ hi hb, hSp⟩ ((hb.turn _).dfr)⟩
end Go
end
section
set_option linter.unusedVariables false
set_option linter.unusedSimpArgs false
namespace Go.Proofs.YtllhbcpbihhdnaaGreatDoor
open Go.RowKit

/-- Of what lay in w only blocks of which K holds may have changed. -/
structure Chg (K : Nat → Prop) (w w' : World) : Prop where
  os : w'.os = w.os
  tape : w'.tape = w.tape
  output : w'.output = w.output
  size : w.heap.size ≤ w'.heap.size
  block : ∀ k, k < w.heap.size → ¬ K k → w'.heap[k]? = w.heap[k]?

def NoK : Nat → Prop := fun _ => False

theorem Chg.refl (K : Nat → Prop) (w : World) : Chg K w w := ⟨rfl, rfl, rfl, Nat.le_refl _, fun _ _ _ => rfl⟩
theorem Chg.trans {K K' : Nat → Prop} {a b c : World} (h : Chg K a b) (k : Chg K' b c) (hk : ∀ i, i < a.heap.size → K' i → K i) : Chg K a c :=
  ⟨k.os.trans h.os, k.tape.trans h.tape, k.output.trans h.output, Nat.le_trans h.size k.size,
    fun i hi hn => (k.block i (Nat.lt_of_lt_of_le hi h.size) (fun q => hn (hk i hi q))).trans (h.block i hi hn)⟩
theorem Chg.mono {K K' : Nat → Prop} {a b : World} (h : Chg K a b) (hk : ∀ i, i < a.heap.size → K i → K' i) : Chg K' a b :=
  ⟨h.os, h.tape, h.output, h.size, fun i hi hn => h.block i hi (fun q => hn (hk i hi q))⟩
theorem Chg.alloc {K : Nat → Prop} {a w : World} (h : Chg K a w) (o : Obj) : Chg K a (w.alloc o) :=
  ⟨h.os, h.tape, h.output, by have := h.size; simp; omega, fun k hk hn => (Below.heap_alloc w o k (Nat.lt_of_lt_of_le hk h.size)).trans (h.block k hk hn)⟩
theorem Chg.setCell {K : Nat → Prop} {a w : World} (h : Chg K a w) {p : Addr} (hp : p.block < a.heap.size → K p.block) (u : Value) : Chg K a (w.setCell p u) :=
  ⟨h.os, h.tape, h.output, by simpa [World.setCell] using h.size, fun k hk hn => (Below.heap_setCell w p u k (fun e => hn (e ▸ hp (e ▸ hk)))).trans (h.block k hk hn)⟩
theorem Chg.drew {K : Nat → Prop} {a w : World} (h : Chg K a w) : Chg K a w.drew := ⟨h.os, h.tape, h.output, h.size, h.block⟩
theorem Chg.drewN {K : Nat → Prop} {a w : World} (h : Chg K a w) (n : Nat) : Chg K a (w.drewN n) := ⟨h.os, h.tape, h.output, h.size, h.block⟩
theorem Chg.grown {K : Nat → Prop} {a w w' : World} {row : Option Nat} (h : Chg K a w) (hg : w.grownBy w' row) (hr : ∀ k, row = some k → k < a.heap.size → K k) : Chg K a w' :=
  ⟨hg.os.trans h.os, hg.tape.trans h.tape, hg.output.trans h.output, Nat.le_trans h.size hg.size,
    fun k hk hn => (hg.block k (Nat.lt_of_lt_of_le hk h.size) (fun e => hn (hr k e.symm hk))).trans (h.block k hk hn)⟩
theorem Chg.ofBelow {w w' : World} (h : Below w.heap.size w w') (K : Nat → Prop) : Chg K w w' := ⟨h.os, h.tape, h.output, h.size, fun k hk _ => h.block k hk⟩
/-- All that changed lay behind B: below B all is as it was. -/
theorem Chg.below {K : Nat → Prop} {W w w' : World} {B : Nat} (hb : Below B W w) (h : Chg K w w') (hk : ∀ k, K k → B ≤ k) (hB : B ≤ w.heap.size) : Below B W w' :=
  hb.trans ⟨h.os, h.tape, h.output, h.size, fun k hk' => h.block k (Nat.lt_of_lt_of_le hk' hB) (fun q => by have := hk k q; omega)⟩
theorem Chg.toBelow {K : Nat → Prop} {w w' : World} (h : Chg K w w') (hk : ∀ k, k < w.heap.size → ¬ K k) : Below w.heap.size w w' :=
  ⟨h.os, h.tape, h.output, h.size, fun k hk' => h.block k hk' (hk k hk')⟩
theorem Chg.at {K : Nat → Prop} {w w' : World} (h : Chg K w w') {k : Nat} {o : Obj} (ho : w.heap[k]? = some o) (hk : ¬ K k) : w'.heap[k]? = some o :=
  (h.block k (lt_of_block ho) hk).trans ho
theorem Chg.bytes {K : Nat → Prop} {a w : World} (h : Chg K a w) (e : TypeId) (s : ByteArray) : Chg K a (Lib.bytesWorld w e s) :=
  h.trans (K' := NoK) ⟨rfl, rfl, rfl, by rw [Lib.bytesWorld_size]; omega, fun k hk _ => Lib.bytesWorld_at_old w e s k hk⟩ (fun _ _ q => q.elim)

/-- A block of one cell, that may be written. -/
abbrev One (w : World) (b : Nat) (v : Value) (t : TypeId) : Prop := w.heap[b]? = some (.cells #[v] t (0, 0))
theorem One.alloc {w : World} (v : Value) (t : TypeId) : One (w.alloc (.cells #[v] t (0, 0))) w.heap.size v t := heap_alloc_new w _
theorem One.old {w : World} {b : Nat} {v : Value} {t : TypeId} (h : One w b v t) (o : Obj) : One (w.alloc o) b v t := (Below.heap_alloc w o b (lt_of_block h)).trans h
theorem One.set {w : World} {b : Nat} {v u : Value} {t : TypeId} (h : One w b v t) : One (w.setCell ⟨b, 0, none⟩ u) b u t := one_setCell h
theorem One.setOther {w : World} {b : Nat} {v u : Value} {t : TypeId} (h : One w b v t) (a : Addr) (hne : b ≠ a.block) : One (w.setCell a u) b v t := (Below.heap_setCell w a u b hne).trans h
theorem One.bytes {w : World} {b : Nat} {v : Value} {t : TypeId} (h : One w b v t) (e : TypeId) (s : ByteArray) : One (Lib.bytesWorld w e s) b v t := (Lib.bytesWorld_at_old w e s b (lt_of_block h)).trans h
/-- A block of cells that may be written. -/
abbrev Blk (w : World) (b : Nat) (cs : Array Value) (t : TypeId) : Prop := w.heap[b]? = some (.cells cs t (0, 0))
theorem Blk.lt {w : World} {b : Nat} {cs : Array Value} {t : TypeId} (h : Blk w b cs t) : b < w.heap.size := lt_of_block h
theorem Blk.cell {w : World} {b : Nat} {cs : Array Value} {t : TypeId} (h : Blk w b cs t) (i : Nat) (v : Value) (hv : cs[i]? = some v) : w.cell? ⟨b, i, none⟩ = some v := by simp [World.cell?, h, hv]
theorem Blk.free {w : World} {b : Nat} {cs : Array Value} {t : TypeId} (h : Blk w b cs t) (i : Nat) : w.frozen? ⟨b, i, none⟩ = false := by simp [World.frozen?, h]
theorem Blk.new {w : World} (cs : Array Value) (t : TypeId) : Blk (w.alloc (.cells cs t (0, 0))) w.heap.size cs t := heap_alloc_new w _
theorem Blk.old {w : World} {b : Nat} {cs : Array Value} {t : TypeId} (h : Blk w b cs t) (o : Obj) : Blk (w.alloc o) b cs t := (Below.heap_alloc w o b (lt_of_block h)).trans h
theorem Blk.set {w : World} {b : Nat} {cs : Array Value} {t : TypeId} (h : Blk w b cs t) (i : Nat) (v : Value) : Blk (w.setCell ⟨b, i, none⟩ v) b (cs.setIfInBounds i v) t := by
  simp only [Blk, World.setCell, Array.getElem?_modify, if_true]
  rw [h]
  simp
theorem Blk.setOther {w : World} {b : Nat} {cs : Array Value} {u : Value} {t : TypeId} (h : Blk w b cs t) (a : Addr) (hne : b ≠ a.block) : Blk (w.setCell a u) b cs t := (Below.heap_setCell w a u b hne).trans h
theorem Blk.below {w w1 : World} {b : Nat} {cs : Array Value} {t : TypeId} (h : Blk w b cs t) (hb : Below w.heap.size w w1) : Blk w1 b cs t := (hb.block b (lt_of_block h)).trans h
theorem Blk.chg {K : Nat → Prop} {w w1 : World} {b : Nat} {cs : Array Value} {t : TypeId} (h : Blk w b cs t) (hb : Chg K w w1) (hk : ¬ K b) : Blk w1 b cs t := (hb.block b (lt_of_block h) hk).trans h
theorem Blk.bytes {w : World} {b : Nat} {cs : Array Value} {t : TypeId} (h : Blk w b cs t) (e : TypeId) (s : ByteArray) : Blk (Lib.bytesWorld w e s) b cs t := (Lib.bytesWorld_at_old w e s b (lt_of_block h)).trans h
/-- A step further: what a call that makes memory leaves. -/
theorem Below.next {a b c : World} {B : Nat} (h : Below B a b) (k : Below b.heap.size b c) (hB : B ≤ a.heap.size) : Below B a c := h.trans (k.mono (Nat.le_trans hB h.size))
theorem cell_next {w w1 : World} (h : Below w.heap.size w w1) {a : Addr} {v : Value} (hc : w.cell? a = some v) : w1.cell? a = some v := (h.cell (World.block_lt_of_cell? w a hc)).trans hc
theorem pw_below_drewN {B : Nat} {w W : World} (h : Below B w W) (n : Nat) : Below B w (W.drewN n) := ⟨h.os, h.tape, h.output, h.size, h.block⟩
theorem free_next {w w1 : World} (h : Below w.heap.size w w1) {a : Addr} {v : Value} (hc : w.cell? a = some v) (hf : w.frozen? a = false) : w1.frozen? a = false := (h.frozen (World.block_lt_of_cell? w a hc)).trans hf
theorem ret_int {k : IntKind} {a b : Int} (h : a = b) : Ending.returned (.int k a) = Ending.returned (.int k b) := by rw [h]
theorem ret_bool {a b : Bool} (h : a = b) : Ending.returned (.bool a) = Ending.returned (.bool b) := by rw [h]
theorem ret_str {a b : ByteArray} (h : a = b) : Ending.returned (.string a) = Ending.returned (.string b) := by rw [h]
/-- A fact that the walk's simp doesn't look into. -/
structure Aside (p : Prop) : Prop where mk :: (out : p)
end Go.Proofs.YtllhbcpbihhdnaaGreatDoor
end
section
set_option linter.unusedVariables false
set_option linter.unusedSimpArgs false
namespace Go.Proofs.YtllhbcpbihhdnaaGreatDoor
open Go.RowKit
/-- What stands in the midst of a call: below all is as it was; blocks of the call's own, the youngest first. -/
structure Mine (w : World) (L : List (Nat × Array Value × TypeId)) (W : World) : Prop where
  low : Below w.heap.size w W
  own : ∀ x ∈ L, w.heap.size ≤ x.1 ∧ Blk W x.1 x.2.1 x.2.2
theorem Mine.start (w : World) : Mine w [] w := ⟨Below.refl _ _, fun x h => by cases h⟩
theorem Mine.next {w : World} {L : List (Nat × Array Value × TypeId)} {W W' : World} (h : Mine w L W) (k : Below W.heap.size W W') : Mine w L W' :=
  ⟨Below.next h.low k (Nat.le_refl _), fun x hx => ⟨(h.own x hx).1, (h.own x hx).2.below k⟩⟩
theorem Mine.alloc {w : World} {L : List (Nat × Array Value × TypeId)} {W : World} (h : Mine w L W) (cs : Array Value) (t : TypeId) : Mine w ((W.heap.size, cs, t) :: L) (W.alloc (.cells cs t)) :=
  ⟨h.low.alloc h.low.size _, fun x hx => by
    rcases List.mem_cons.1 hx with rfl | hx
    · exact ⟨h.low.size, Blk.new _ _⟩
    · exact ⟨(h.own x hx).1, (h.own x hx).2.old _⟩⟩
theorem Mine.drewN {w : World} {L : List (Nat × Array Value × TypeId)} {W : World} (h : Mine w L W) (n : Nat) : Mine w L (W.drewN n) := ⟨pw_below_drewN h.low n, fun x hx => h.own x hx⟩
theorem Mine.drop {w : World} {x : Nat × Array Value × TypeId} {L : List (Nat × Array Value × TypeId)} {W : World} (h : Mine w (x :: L) W) : Mine w L W := ⟨h.low, fun y hy => h.own y (List.mem_cons_of_mem _ hy)⟩
theorem Mine.at {w : World} {b : Nat} {cs : Array Value} {t : TypeId} {L : List (Nat × Array Value × TypeId)} {W : World} (h : Mine w ((b, cs, t) :: L) W) (i : Nat) (v : Value) (hv : cs[i]? = some v) : W.cell? ⟨b, i, none⟩ = some v :=
  (h.own _ (List.mem_cons_self ..)).2.cell i v hv
theorem Mine.lt {w : World} {b : Nat} {cs : Array Value} {t : TypeId} {L : List (Nat × Array Value × TypeId)} {W : World} (h : Mine w ((b, cs, t) :: L) W) : b < W.heap.size := (h.own _ (List.mem_cons_self ..)).2.lt
theorem Mine.free {w : World} {b : Nat} {cs : Array Value} {t : TypeId} {L : List (Nat × Array Value × TypeId)} {W : World} (h : Mine w ((b, cs, t) :: L) W) (i : Nat) : W.frozen? ⟨b, i, none⟩ = false := (h.own _ (List.mem_cons_self ..)).2.free i
end Go.Proofs.YtllhbcpbihhdnaaGreatDoor
end
section
set_option linter.unusedVariables false
set_option linter.unusedSimpArgs false
namespace Go.Proofs.YtllhbcpbihhdnaaGreatDoor
open Go.RowKit Go.Shelf
attribute [local go_sem] Oper.semAt_some
set_option maxRecDepth 100000
/-- The parts of a text, between such bytes. -/
def parts (b : UInt8) (s : ByteArray) : List ByteArray := (Tok.split b s.data.toList).map (fun l => ⟨l.toArray⟩)
theorem parts_ne (b : UInt8) (s : ByteArray) : parts b s ≠ [] := by
  unfold parts
  intro h
  exact Tok.split_ne b _ (List.map_eq_nil_iff.1 h)
/-- What the iterator keeps: its text, the separator, and a 0. -/
structure SplAt (c0 : Nat) (b : UInt8) (rest : ByteArray) (W : World) : Prop where
  txt : Blk W c0 #[.string rest] 9
  sep : Blk W (c0 + 1) #[.string ⟨#[b]⟩] 9
  sav : Blk W (c0 + 2) #[.int .i64 0] 3
/-- What a round must keep. -/
def SplKp (c0 : Nat) (W W' : World) : Prop := ∀ k, c0 ≤ k → k < c0 + 3 → W'.heap[k]? = W.heap[k]?
def SplT (c0 : Nat) (A B : World) : Prop := ∃ v, B = A.setCell ⟨c0, 0, none⟩ v
theorem SplKp.trans {c0 : Nat} {A B C : World} (h : SplKp c0 A B) (k : SplKp c0 B C) : SplKp c0 A C := fun i h1 h2 => (k i h1 h2).trans (h i h1 h2)
theorem SplAt.kept {c0 : Nat} {b : UInt8} {r : ByteArray} {W W' : World} (h : SplAt c0 b r W) (k : SplKp c0 W W') : SplAt c0 b r W' :=
  ⟨(k c0 (Nat.le_refl _) (by omega)).trans h.txt, (k (c0 + 1) (by omega) (by omega)).trans h.sep, (k (c0 + 2) (by omega) (by omega)).trans h.sav⟩
theorem SplAt.set {c0 : Nat} {b : UInt8} {r : ByteArray} {W : World} (h : SplAt c0 b r W) (r' : ByteArray) : SplAt c0 b r' (W.setCell ⟨c0, 0, none⟩ (.string r')) :=
  ⟨by simpa using h.txt.set 0 (.string r'), h.sep.setOther _ (by simp), h.sav.setOther _ (by simp)⟩
def splLeft (c0 : Nat) (W : World) : Nat := match W.cell? ⟨c0, 0, none⟩ with
  | some (.string s) => s.size
  | _ => 0
theorem SplAt.left {c0 : Nat} {b : UInt8} {r : ByteArray} {W : World} (h : SplAt c0 b r W) : splLeft c0 W = r.size := by unfold splLeft; rw [h.txt.cell 0 (.string r) rfl]
theorem splitSeq_any (s sep : ByteArray) (w : World) : Calls Tryz.prog 84 #[.string s, .string sep] w fun e w' =>
    e = .returned (.func (.func 133) #[] #[.pointer (some ⟨w.heap.size + 1, 0, none⟩), .pointer (some ⟨w.heap.size, 0, none⟩), .pointer (some ⟨w.heap.size + 2, 0, none⟩)]) ∧
      w' = ((w.alloc (.cells #[.string s] 9)).alloc (.cells #[.string sep] 9)).alloc (.cells #[.int .i64 0] 3) := by
  have inner : ∀ W : World, Calls Tryz.prog 112 #[.string s, .string sep, .int .i64 0] W fun e w' =>
      e = .returned (.func (.func 133) #[] #[.pointer (some ⟨W.heap.size + 1, 0, none⟩), .pointer (some ⟨W.heap.size, 0, none⟩), .pointer (some ⟨W.heap.size + 2, 0, none⟩)]) ∧
      w' = ((W.alloc (.cells #[.string s] 9)).alloc (.cells #[.string sep] 9)).alloc (.cells #[.int .i64 0] 3) := by
    intro W
    go_enter Tryz.func112, Tryz.ntmps112
    go_wp2
    go_ret
    exact ⟨rfl, rfl⟩
  go_enter Tryz.func84, Tryz.ntmps84
  go_wp2_with ((go_at_call 112; (with_reducible refine (inner _).mono ?_); rintro e w1 ⟨rfl, rfl⟩))
  go_ret
  exact ⟨rfl, rfl⟩
theorem index_no {b : UInt8} : ∀ {l : List UInt8}, b ∉ l → Lib.indexByte l b = -1
  | [], _ => by simp [Lib.indexByte]
  | x :: l, h => by
    simp only [List.mem_cons, not_or] at h
    have hb : (x == b) = false := by simpa using fun e => h.1 e.symm
    simp [Lib.indexByte, hb, index_no h.2]
theorem index_at {b : UInt8} {r : List UInt8} : ∀ {p : List UInt8}, b ∉ p → Lib.indexByte (p ++ b :: r) b = (p.length : Int)
  | [], _ => by simp [Lib.indexByte]
  | x :: p, h => by
    simp only [List.mem_cons, not_or] at h
    have hb : (x == b) = false := by simpa using fun e => h.1 e.symm
    have hne : ((p.length : Int) == -1) = false := by rw [beq_eq_false_iff_ne]; omega
    simp [Lib.indexByte, hb, index_at h.2]
    try omega
theorem parts_no {b : UInt8} {s : ByteArray} (h : b ∉ s.data.toList) : parts b s = [s] := by unfold parts; rw [Tok.split_no h]; simp
theorem parts_at {b : UInt8} {s x y : ByteArray} {p r : List UInt8} (h : s.data.toList = p ++ b :: r) (hp : b ∉ p) (hx : x.data.toList = p) (hy : y.data.toList = r) : parts b s = x :: parts b y := by
  unfold parts
  rw [h, Tok.split_at r hp, hy, List.map_cons, ← hx]
set_option maxHeartbeats 4000000 in
theorem splitSeq_stops (c0 : Nat) (b : UInt8) (s : ByteArray) (n : Nat) (w : World) (hc : c0 + 3 ≤ w.heap.size) (hs : s.size ≤ 1000000000) (hA : SplAt c0 b s w) :
    SeqC Fence.wide n Tryz.prog 133 #[.pointer (some ⟨c0 + 1, 0, none⟩), .pointer (some ⟨c0, 0, none⟩), .pointer (some ⟨c0 + 2, 0, none⟩)] (fun x : ByteArray => #[.string x]) (SplKp c0) (SplT c0)
      (fun xs => xs = parts b s) (fun p => p <+: parts b s) w := by
  intro l J Jx W hb hJ hJT hY h0
  have hA1 : SplAt c0 b s W := hA.kept (fun k h1 h2 => hb.block k (by omega))
  clear hA
  refine callsIn_of_wp Tryz.func133 rfl trivial ?_ rfl
  simp only [Tryz.ntmps133, List.size_toArray, List.length_cons, List.length_nil, Nat.reduceAdd, Nat.reduceSub, Array.replicate_succ, Array.replicate_zero, List.push_toArray, List.append_toArray, List.nil_append, List.cons_append]
  have z0 := hA1.txt.cell 0 _ rfl
  have z1 := hA1.sep.cell 0 _ rfl
  have z2 := hA1.sav.cell 0 _ rfl
  gi_wp2
  gi_loopw [7] (fun _ wr => ∃ (pre : List ByteArray) (rest : ByteArray), parts b s = pre ++ parts b rest ∧ SplAt c0 b rest wr ∧ rest.size ≤ s.size ∧ J pre wr) (fun _ wr => splLeft c0 wr)
  case atStart => exact ⟨[], s, rfl, hA1, Nat.le_refl _, h0⟩
  case round =>
    clear z0 z1 z2 hA1
    obtain ⟨pre, rest, hx, hA, hsz, hJs⟩ := hrel
    have z0 := hA.txt.cell 0 _ rfl
    have z1 := hA.sep.cell 0 _ rfl
    have z2 := hA.sav.cell 0 _ rfl
    have hL := hA.left
    have hlen : rest.data.toList.length = rest.size := by simp
    rcases Tok.mem_or b rest.data.toList with hno | ⟨p, r, hpr, hp⟩
    · have hidx := index_no hno
      have hpt := parts_no hno
      rw [hpt] at hx
      have hin := fun W => Tryz.strings_Index_one rest b W
      rw [hidx] at hin
      obtain ⟨fn, tmps, assign, body, hy, hR⟩ := hY pre rest wr hJs (by rw [hx]; exact List.prefix_refl _)
      gi_wp2_with ((refine ⟨trivial, fun h_ => absurd h_ (by simp [Fence.wide]), ?_⟩; gi_at_call 108; refine (callsIn_wide.2 (hin _)).mono ?_; rintro e w' ⟨rfl, hw⟩; have hw' := hw.symm; clear hw; subst hw'))
      refine ⟨fun h_ => absurd h_ (by simp [Fence.wide]), ?_⟩
      refine hR.mono ?_
      rintro e W3 (⟨rfl, hJ3, hk3⟩ | ⟨rfl, hJx3⟩)
      · gi_wp2
        go_end0
        exact ⟨⟨_, rfl⟩, .inl ⟨pre ++ [rest], hx.symm, hJ3⟩⟩
      · gi_wp2
        go_end0
        exact ⟨⟨_, rfl⟩, .inr ⟨pre ++ [rest], by rw [hx]; exact List.prefix_refl _, hJx3⟩⟩
    · have hin := fun W => Tryz.strings_Index_one rest b W
      rw [hpr, index_at hp] at hin
      have hsum : rest.size = p.length + (r.length + 1) := by rw [← hlen, hpr]; simp
      have hp1 : (p.length : Int) ≤ (rest.size : Int) := by omega
      have hp2 : (p.length : Int) + 1 ≤ (rest.size : Int) := by omega
      obtain ⟨x, hxe⟩ : ∃ x, rest.extract 0 p.length = x := ⟨_, rfl⟩
      obtain ⟨y, hye⟩ : ∃ y, rest.extract (p.length + 1) rest.size = y := ⟨_, rfl⟩
      have hxd : x.data.toList = p := by rw [← hxe]; simp [hpr]
      have hyd : y.data.toList = r := by rw [← hye]; simp [hpr, hsum]; rw [List.take_of_length_le (by omega)]
      have hpt := parts_at hpr hp hxd hyd
      have hyz : y.size < rest.size := by rw [show y.size = y.data.toList.length by simp, hyd]; omega
      rw [hpt] at hx
      clear hpt hxd hyd hpr hp hsum hlen
      obtain ⟨fn, tmps, assign, body, hy, hR⟩ := hY pre x wr hJs ⟨parts b y, by rw [hx]; simp⟩
      gi_wp2_with ((refine ⟨trivial, fun h_ => absurd h_ (by simp [Fence.wide]), ?_⟩; gi_at_call 108; refine (callsIn_wide.2 (hin _)).mono ?_; rintro e w' ⟨rfl, hw⟩; have hw' := hw.symm; clear hw; subst hw'))
      refine ⟨fun h_ => absurd h_ (by simp [Fence.wide]), ?_⟩
      refine hR.mono ?_
      rintro e W3 (⟨rfl, hJ3, hk3⟩ | ⟨rfl, hJx3⟩)
      · have hA3 := hA.kept hk3
        clear z0 z1 z2
        have z0 := hA3.txt.cell 0 _ rfl
        have z1 := hA3.sep.cell 0 _ rfl
        have z2 := hA3.sav.cell 0 _ rfl
        have y0 := hA3.txt.free 0
        gi_wp2
        go_roundw
        case rel => exact ⟨pre ++ [x], y, by rw [hx]; simp, hA3.set y, by omega, hJT _ _ _ hJ3 ⟨_, rfl⟩⟩
        case measure => rw [(hA3.set y).left, hL]; exact hyz
      · gi_wp2
        refine bodyPost_ret (results_none rfl _ _ _) rfl ?_
        exact ⟨⟨_, rfl⟩, .inr ⟨pre ++ [x], ⟨parts b y, by rw [hx]; simp⟩, hJx3⟩⟩
end Go.Proofs.YtllhbcpbihhdnaaGreatDoor
end
section
set_option linter.unusedVariables false
set_option linter.unusedSimpArgs false
namespace Go.Proofs.YtllhbcpbihhdnaaGreatDoor
open Go.RowKit
set_option maxRecDepth 100000
theorem bytes_free (w : World) (e : TypeId) (s : ByteArray) (j : Nat) (hj : j < s.size) : (Lib.bytesWorld w e s).frozen? ⟨w.heap.size, j, none⟩ = false := by
  have h := Lib.bytesWorld_at_new w e s
  have hc : s.size ≤ (Lib.bytesCells w e s).size := by
    have := Lib.bytesWorld_cell w e s (s.size - 1) (by omega)
    unfold World.cell? at this
    rw [h] at this
    simp only [Option.isSome_none, Bool.false_eq_true, if_false] at this
    have := (Array.getElem?_eq_some_iff.1 this).1
    omega
  unfold World.frozen?
  rw [h]
  simp
  omega
theorem nums_upper (l : List UInt8) (n : Nat) (h : l.length = n) (xs : List Int) (hx : xs.length = n) (hj : ∀ j, j < n → xs.getD j 0 = Txt.mid l n j) : strOfNums xs = ⟨(Txt.upper l).toArray⟩ := by
  have : xs = (Txt.upper l).map fun c => (c.toNat : Int) := by
    apply List.ext_getElem
    · simp [Txt.upper, h, hx]
    · intro j h1 h2
      have := hj j (by omega)
      rw [List.getD_eq_getElem?_getD, List.getElem?_eq_getElem h1] at this
      simp only [Option.getD_some] at this
      rw [this]
      unfold Txt.mid
      rw [if_pos (by omega)]
      simp [Txt.upper, List.getD_eq_getElem?_getD, List.getElem?_eq_getElem (show j < l.length by omega)]
  rw [this]
  unfold strOfNums
  have h : ∀ l : List UInt8, l.map ((fun n : Int => UInt8.ofNat n.toNat) ∘ fun c => (c.toNat : Int)) = l := fun l => by
    induction l with
    | nil => rfl
    | cons c l ih => rw [List.map_cons, ih]; congr 1; simp
  simp [h]
set_option maxHeartbeats 2000000 in
theorem param_upper (s : ByteArray) (w : World) (hs : s.size ≤ 140737488351232) :
    Calls Tryz.prog 51 #[.string s] w fun e w' => e = .returned (.string ⟨(Txt.upper s.data.toList).toArray⟩) ∧ Below w.heap.size w w' := by
  have hds : s.data.toList.length = s.size := by simp
  have kb := fun W => Lib.run_convert_string_bytes (P := Tryz.prog) W 9 40 5 s Tryz.underlying9 Tryz.underlying40 Tryz.underlying5
  go_enter Tryz.func51, Tryz.ntmps51
  go_wp2
  go_loopw [10] (fun i wr => ∃ k : Nat, k ≤ s.size ∧ i = .int .i64 k ∧ Aside ((∀ j, j < s.size → wr.cell? ⟨w.heap.size, j, none⟩ = some (.int .u8 (Txt.mid s.data.toList k j)) ∧ wr.frozen? ⟨w.heap.size, j, none⟩ = false) ∧ Below w.heap.size w wr ∧ w.heap.size < wr.heap.size))
    (fun i _ => s.size - (intOf i).toNat)
  case atStart =>
    refine ⟨0, by omega, rfl, ⟨fun j hj => ⟨?_, bytes_free w _ s j hj⟩, ?_, by rw [Lib.bytesWorld_size]; omega⟩⟩
    · rw [Lib.bytesWorld_cell _ _ _ _ hj, Txt.mid_zero]
    · exact ((Below.refl _ _ : Below w.heap.size w w)).trans ⟨rfl, rfl, rfl, by rw [Lib.bytesWorld_size]; omega, fun k hk => Lib.bytesWorld_at_old w _ s k hk⟩
  case round =>
    obtain ⟨k, hk, rfl, HR⟩ := hrel
    by_cases hlt : k < s.size
    · obtain ⟨hc, hf⟩ := HR.out.1 k hlt
      rw [Txt.mid_at] at hc
      generalize hcv : s.data.toList.getD k 0 = c at hc
      have hcr := c.toNat_lt
      have HV := Lib.hid hcv
      clear hcv
      by_cases hl : 97 ≤ c.toNat ∧ c.toNat ≤ 122
      · obtain ⟨l1, l2⟩ := hl
        go_wp2
        all_goals
          go_roundw
          case measure => simp [intOf]; omega
          case rel =>
            refine ⟨k + 1, by omega, by go_num, ⟨fun j hj => ?_, HR.out.2.1.setCell (Nat.le_refl _) _, by simpa [World.setCell] using HR.out.2.2⟩⟩
            by_cases e : j = k
            · subst e
              refine ⟨?_, by simp [hf]⟩
              rw [Txt.mid_new, HV.out, Txt.up_low ⟨l1, l2⟩]
              refine (World.cell?_setCell_same _ _ _ hc).trans ?_
              congr 2
              omega
            · rw [Txt.mid_ne _ _ _ e]
              obtain ⟨g1, g2⟩ := HR.out.1 j hj
              exact ⟨by rw [World.cell?_setCell_other _ _ _ _ (by intro q; injection q; omega)]; exact g1, by simpa using g2⟩
      · have HN := Lib.hid hl
        have h97 : (decide (97 ≤ (c.toNat : Int)) && decide ((c.toNat : Int) ≤ 122)) = false := by
          rw [Bool.and_eq_false_iff, decide_eq_false_iff_not, decide_eq_false_iff_not]; omega
        clear hl
        go_wp2
        all_goals
          first
            | (exfalso; have h1 : (97 : Int) ≤ (c.toNat : Int) := by assumption
               have h2 : (c.toNat : Int) ≤ 122 := by assumption
               exact HN.out ⟨by omega, by omega⟩)
            | (go_roundw
               case measure => simp [intOf]; omega
               case rel => exact ⟨k + 1, by omega, by go_num, ⟨fun j hj => by rw [Txt.mid_same _ _ (by rw [HV.out]; exact Txt.up_not HN.out)]; exact HR.out.1 j hj, HR.out.2.1, HR.out.2.2⟩⟩)
    · have hke : k = s.size := by omega
      subst hke
      have hst := run_convert_bytes_arg (P := Tryz.prog) (w := wr) 40 5 Tryz.underlying40 Tryz.underlying5 w.heap.size 0 s.size (grownCap w s.size 0 5) ((List.range s.size).map fun j => Txt.mid s.data.toList s.size j) (by simp) (fun i hi => by
        rw [Nat.zero_add, (HR.out.1 i hi).1]; simp [List.getD_eq_getElem?_getD, hi]) 9 Tryz.underlying9
      rw [nums_upper s.data.toList s.size hds _ (by simp) (fun j hj => by simp [List.getD_eq_getElem?_getD, hj])] at hst
      go_wp2
      go_ret
      exact ⟨rfl, HR.out.2.1⟩
namespace Pm
def upB (s : ByteArray) : ByteArray := ⟨(Txt.upper s.data.toList).toArray⟩
def cutL (x : ByteArray) (b : UInt8) : ByteArray := ⟨(Lib.cut x.data.toList [b]).1.toArray⟩
def cutR (x : ByteArray) (b : UInt8) : ByteArray := ⟨(Lib.cut x.data.toList [b]).2.1.toArray⟩
end Pm
end Go.Proofs.YtllhbcpbihhdnaaGreatDoor
end
section
set_option linter.unusedVariables false
set_option linter.unusedSimpArgs false
namespace Go.Proofs.YtllhbcpbihhdnaaGreatDoor
open Go.RowKit Go.MapKept
theorem mapUpdate_at {P : Program} {T K E : TypeId} (hT : P.underlying T = some (.map K E)) (hK : P.underlying K = some .string) {w : World} {r : Nat} {es : Array MapEntry} {c : Nat} (hb : w.heap[r]? = some (.map es c)) (k : ByteArray) (v : Value)
    (hf : Instr.findNow .string (.string k) es.toList 0 = some none) :
    (Instr.mapUpdate T (.map (some r)) (.string k) v).run P w = .ok () { w with heap := w.heap.setIfInBounds r (.map (es.push ⟨.string k, v, c⟩) (c + 1)) } := by
  have h1 := Go.MapKept.run_getObj_map (P := P) hb
  have h2 := run_checkKey (P := P) (w := w) hK (k := .string k) trivial false 9999
  have h3 := run_findKey (P := P) (w := w) hK hf
  have h4 := run_setObj_map (P := P) (.map (es.push ⟨.string k, v, c⟩) (c + 1)) hb
  unfold Instr.mapUpdate
  simp only [Sem.run_bind, run_underlying hT, Result.andThen_ok, h1, h2, h3]
  exact h4
theorem mapUpdate_new {P : Program} {T K E : TypeId} (hT : P.underlying T = some (.map K E)) (hK : P.underlying K = some .string) (w : World) (es : Array MapEntry) (c : Nat) (k : ByteArray) (v : Value)
    (hf : Instr.findNow .string (.string k) es.toList 0 = some none) :
    (Instr.mapUpdate T (.map (some w.heap.size)) (.string k) v).run P (w.alloc (.map es c)) = .ok () (w.alloc (.map (es.push ⟨.string k, v, c⟩) (c + 1))) := by
  rw [mapUpdate_at hT hK (heap_alloc_new w (.map es c)) k v hf]
  congr 1
  show ({ w with heap := (w.heap.push _).setIfInBounds w.heap.size _ } : World) = { w with heap := w.heap.push _ }
  congr 1
  apply Array.ext_getElem?
  intro i
  rw [Array.getElem?_setIfInBounds, Array.getElem?_push, Array.getElem?_push, Array.size_push]
  split <;> split <;> simp_all
theorem lookup_str {P : Program} {T K E : TypeId} (hT : P.underlying T = some (.map K E)) (hK : P.underlying K = some .string) {w : World} {r : Nat} {es : Array MapEntry} {c : Nat} (hb : w.heap[r]? = some (.map es c)) (k : ByteArray) (i : Nat) (v : Value)
    (hf : Instr.findNow .string (.string k) es.toList 0 = some (some (i, v))) :
    (Instr.lookup T (.map (some r)) (.string k) false).run P w = .ok v w := by
  have h1 := Go.MapKept.run_getObj_map (P := P) hb
  have h2 := run_checkKey (P := P) (w := w) hK (k := .string k) trivial es.isEmpty 9999
  have h3 := run_findKey (P := P) (w := w) hK hf
  unfold Instr.lookup
  simp only [Sem.run_bind, run_underlying hT, Result.andThen_ok, h1, h2, h3, Sem.run_pure]
  rfl
theorem lookup_str_ok {P : Program} {T K E : TypeId} (hT : P.underlying T = some (.map K E)) (hK : P.underlying K = some .string) {w : World} {r : Nat} {es : Array MapEntry} {c : Nat} (hb : w.heap[r]? = some (.map es c)) (k : ByteArray) (i : Nat) (v : Value)
    (hf : Instr.findNow .string (.string k) es.toList 0 = some (some (i, v))) :
    (Instr.lookup T (.map (some r)) (.string k) true).run P w = .ok (.tuple #[v, .bool true]) w := by
  have h1 := Go.MapKept.run_getObj_map (P := P) hb
  have h2 := run_checkKey (P := P) (w := w) hK (k := .string k) trivial es.isEmpty 9999
  have h3 := run_findKey (P := P) (w := w) hK hf
  unfold Instr.lookup
  simp only [Sem.run_bind, run_underlying hT, Result.andThen_ok, h1, h2, h3, Sem.run_pure]
  rfl
theorem lookup_str_none {P : Program} {T K E : TypeId} (hT : P.underlying T = some (.map K E)) (hK : P.underlying K = some .string) {w : World} {r : Nat} {es : Array MapEntry} {c : Nat} (hb : w.heap[r]? = some (.map es c)) (k : ByteArray) (z : Value)
    (hz : (zeroValue E).run P w = .ok z w) (hf : Instr.findNow .string (.string k) es.toList 0 = some none) :
    (Instr.lookup T (.map (some r)) (.string k) true).run P w = .ok (.tuple #[z, .bool false]) w := by
  have h1 := Go.MapKept.run_getObj_map (P := P) hb
  have h2 := run_checkKey (P := P) (w := w) hK (k := .string k) trivial es.isEmpty 9999
  have h3 := run_findKey (P := P) (w := w) hK hf
  unfold Instr.lookup
  simp only [Sem.run_bind, run_underlying hT, Result.andThen_ok, h1, h2, h3, hz, Sem.run_pure]
  rfl
end Go.Proofs.YtllhbcpbihhdnaaGreatDoor
end
section
set_option linter.unusedVariables false
set_option linter.unusedSimpArgs false
namespace Go.Proofs.YtllhbcpbihhdnaaGreatDoor
open Go.RowKit
/-- The table of powers of ten that strconv reads. -/
def Tab (w : World) : Prop := Lib.TabIs Tryz.prog w "internal/strconv.uint64pow10" .u64 Lib.pow10Tab
theorem gPow : Tryz.prog.globalNamed "internal/strconv.uint64pow10" = some 4 := by kernel_rfl
theorem Tab.lt {w : World} (h : Tab w) : 4 < w.heap.size := by
  have h1 : w.var? Tryz.prog "internal/strconv.uint64pow10" = some _ := h
  unfold World.var? at h1
  rw [gPow] at h1
  simp only [Option.bind_some] at h1
  cases h' : w.heap[4]? with
  | none => rw [h'] at h1; simp at h1
  | some o => exact lt_of_block h'
theorem Tab.below {w w1 : World} {B : Nat} (h : Tab w) (hb : Below B w w1) (hB : w.heap.size ≤ B) : Tab w1 := var?_below hb gPow (Nat.lt_of_lt_of_le h.lt hB) h
theorem Tab.next {w w1 : World} (h : Tab w) (hb : Below w.heap.size w w1) : Tab w1 := h.below hb (Nat.le_refl _)
theorem below_grow (w : World) (k : Nat) (os : Array Obj) : Below w.heap.size w (Go.Sort.grow (w.drewN k) os) :=
  ⟨rfl, rfl, rfl, by simp [Go.Sort.grow], fun i hi => by
    show (w.heap ++ os)[i]? = _
    rw [Array.getElem?_append, if_pos hi]⟩
theorem itoa_any (n : Int) (w : World) (h0 : -9223372036854775808 ≤ n) (h1 : n ≤ 9223372036854775807) (ht : Tab w) :
    Calls Tryz.prog 73 #[.int .i64 n] w fun e w' => e = .returned (.string ⟨(Lib.itoa n).toArray⟩) ∧ Below w.heap.size w w' :=
  (Tryz.strconv_Itoa n h0 h1 w ht).mono fun _ _ ⟨he, k, os, hw⟩ => ⟨he, hw ▸ below_grow w k os⟩
theorem repeatL_one (x : UInt8) (c : Nat) : Lib.repeatL [x] c = List.replicate c x := by
  induction c with
  | zero => rfl
  | succ c ih => rw [Lib.repeatL, ih]; rfl
theorem tab_of_laid {lst : List (String × DataW Unit)} {x y : String × DataW Unit} {W : World} (h : lst = [x, y, ("internal/strconv.uint64pow10", Lib.tabData .u64 Lib.pow10Tab)]) (hL : laidMet Tryz.prog lst W) : Tab W := by
  subst h
  exact Lib.tabIs_of_head gPow (by kernel_rfl) Tryz.underlying184 Tryz.underlying167 (by kernel_rfl) (by kernel_rfl) hL.tail.tail
/-- strings.Repeat of one byte. -/
theorem repeat_any (x : UInt8) (c : Int) (w : World) (h0 : 0 ≤ c) (h1 : c ≤ 140737488355328) :
    Calls Tryz.prog 131 #[.string ⟨#[x]⟩, .int .i64 c] w fun e w' => e = .returned (.string ⟨(List.replicate c.toNat x).toArray⟩) ∧ Below w.heap.size w w' := by
  obtain ⟨n, rfl⟩ := Int.eq_ofNat_of_zero_le h0
  have := Tryz.strings_Repeat ⟨#[x]⟩ n w (by omega) (by show 1 * n ≤ _; omega)
  rw [show (ByteArray.mk #[x]).data.toList = [x] from rfl, repeatL_one] at this
  exact this
end Go.Proofs.YtllhbcpbihhdnaaGreatDoor
end
section
set_option linter.unusedVariables false
set_option linter.unusedSimpArgs false
namespace Go.Proofs.YtllhbcpbihhdnaaGreatDoor
open Go.RowKit Go.ChangeShapes
structure Lv (w : World) : Prop where
  shaped : w.ShapedOpen Tryz.prog
  tab : Tab w
theorem Lv.next {w w1 : World} (h : Lv w) (hb : Below w.heap.size w w1) : Lv w1 := ⟨h.shaped.keptBut (hb.frame fun _ => False) (fun _ hp => hp.elim), h.tab.next hb⟩
theorem below_drewN (w : World) (n : Nat) : Below w.heap.size w (w.drewN n) := ⟨rfl, rfl, rfl, Nat.le_refl _, fun _ _ => rfl⟩
theorem cut_any (s sep : ByteArray) (w : World) (he : Lv w) (hs : s.size < 4294967281) :
    Calls Tryz.prog 24 #[.string s, .string sep] w fun e w' => e = .returned (.tuple #[.string ⟨(Lib.cut s.data.toList sep.data.toList).1.toArray⟩, .string ⟨(Lib.cut s.data.toList sep.data.toList).2.1.toArray⟩, .bool (Lib.cut s.data.toList sep.data.toList).2.2]) ∧ Below w.heap.size w w' :=
  (Tryz.strings_Cut_shaped s sep w he.shaped hs).mono fun _ _ ⟨h, n, hw⟩ => ⟨h, hw ▸ below_drewN w n⟩
end Go.Proofs.YtllhbcpbihhdnaaGreatDoor
end
section
set_option linter.unusedVariables false
set_option linter.unusedSimpArgs false
namespace Go.Proofs.YtllhbcpbihhdnaaGreatDoor
open Go.RowKit Go.Shelf
attribute [local go_sem] Oper.semAt_some
set_option maxRecDepth 100000
namespace Pm
/-- A key: its function, and what that does with a value. -/
structure Key (σ : Type) where
  key : ByteArray
  fn : Nat
  cap : Array Value
  step : ByteArray → σ → σ × Int
def Key.val {σ : Type} (k : Key σ) : Value := .func (.func k.fn) #[] k.cap
def keyEnts {σ : Type} : Nat → List (Key σ) → List MapEntry
  | _, [] => []
  | i, k :: ks => ⟨.string k.key, k.val, i⟩ :: keyEnts (i + 1) ks
def seenEnts : Nat → List ByteArray → List MapEntry
  | _, [] => []
  | i, k :: ks => ⟨.string k, .bool true, i⟩ :: seenEnts (i + 1) ks
def findK {σ : Type} (ks : List (Key σ)) (k : ByteArray) : Option (Key σ) := ks.find? (fun x => decide (x.key = k))
theorem same_str (a b : ByteArray) : Instr.sameNow .string (.string a) (.string b) = some (decide (b = a)) := by
  obtain ⟨r, hr, hiff⟩ := MapKept.sameNow_of_keys (d := .string) (a := .string a) (b := .string b) trivial trivial
  rw [hr]
  congr 1
  rw [Bool.eq_iff_iff, hiff]
  simp [eq_comm]
theorem find_ents {σ : Type} (k : ByteArray) : ∀ (ks : List (Key σ)) (i j : Nat), ∃ p, Instr.findNow .string (.string k) (keyEnts i ks) j = some ((findK ks k).map fun K => (p, K.val))
  | [], _, _ => ⟨0, rfl⟩
  | x :: ks, i, j => by
    unfold keyEnts findK Instr.findNow
    simp only [same_str, List.find?_cons]
    by_cases h : x.key = k
    · simp only [h, decide_true]; exact ⟨j, rfl⟩
    · simp only [h, decide_false]
      exact find_ents k ks (i + 1) (j + 1)
theorem find_seen (k : ByteArray) : ∀ (l : List ByteArray) (i j : Nat), ∃ p, Instr.findNow .string (.string k) (seenEnts i l) j = some (if l.any (fun y => decide (y = k)) = true then some (p, .bool true) else none)
  | [], _, _ => ⟨0, rfl⟩
  | x :: l, i, j => by
    unfold seenEnts Instr.findNow
    simp only [same_str]
    by_cases h : x = k
    · simp only [h, decide_true]; exact ⟨j, by simp⟩
    · simp only [h, decide_false]
      obtain ⟨p, hp⟩ := find_seen k l (i + 1) (j + 1)
      exact ⟨p, by rw [hp, List.any_cons, decide_eq_false h, Bool.false_or]⟩
theorem seen_push (k : ByteArray) : ∀ (l : List ByteArray) (i : Nat), seenEnts i (l ++ [k]) = seenEnts i l ++ [⟨.string k, .bool true, i + l.length⟩]
  | [], i => rfl
  | x :: l, i => by
    rw [List.cons_append, seenEnts, seenEnts, seen_push k l (i + 1), List.cons_append]
    congr 3
    simp
    omega
/-- One word. -/
def wordStep {σ : Type} (ks : List (Key σ)) (x : ByteArray) (seen : List ByteArray) (s : σ) : (List ByteArray × σ) × Int :=
  if x.data.toList = [] then ((seen, s), 2) else
  match findK ks (upB (cutL x 61)) with
  | none => ((seen, s), 10)
  | some K => if seen.any (fun y => decide (y = upB (cutL x 61))) = true then ((seen, s), 11) else ((seen ++ [upB (cutL x 61)], (K.step (cutR x 61) s).1), (K.step (cutR x 61) s).2)
def wordsRun {σ : Type} (ks : List (Key σ)) : List ByteArray → List ByteArray → σ → σ × Int
  | [], _, s => (s, 0)
  | x :: xs, seen, s => if (wordStep ks x seen s).2 = 0 then wordsRun ks xs (wordStep ks x seen s).1.1 (wordStep ks x seen s).1.2 else ((wordStep ks x seen s).1.2, (wordStep ks x seen s).2)
def wordsAll {σ : Type} (ks : List (Key σ)) (t : ByteArray) (s : σ) : σ × Int := if t.data.toList = [] then (s, 0) else wordsRun ks (parts 32 t) [] s
end Pm
open Pm
section
variable {l n : Nat} {P : Program} {ops : Array Oper} {rest : List Oper} {Q : Exit → Act → World → Prop} {a : Act} {w : World} {o : Oper}
theorem stepIn_value (F : Fence) (hgd : o.guard = none) (hab : o.about P w a.eval = none) (hpl : ∀ c, o.op ≠ .defer c) (v : Value) (w2 : World) (hrun : (execOp a.eval o).run P w = .ok (.value v) w2) (h : wpListIn F n P ops Q rest (a.put o.dst v) w2) : wpListIn F n P ops Q (o :: rest) a w := by
  refine wpListIn_plain hgd fun K hK => ?_
  unfold Oper.wpIn
  refine ⟨fun f hf => (by rw [hab] at hf; cases hf), ?_⟩
  rw [Oper.semAt_plain F _ _ (by intro c hc; exact hpl c hc), hrun]
  exact hK _ _ h
/-- A call of a function value, in a round under the wide fence. -/
theorem stepIn_callv (l : Nat) (hgd : o.guard = none) (t x : Operand) (tys : Array TypeId) (ho : o.op = .call { callee := .value t, args := #[x], argTypes := tys }) (g : Nat) (cap : Array Value) (ht : a.eval t = .func (.func g) #[] cap)
    (eg : Enters P g) (xv : Value) (hx : a.eval x = xv) (R : Ending → World → Prop) (hc : Calls P g (#[xv] ++ cap) w R)
    (hR : ∀ e w', R e w' → ∃ v, e = .returned v ∧ wpListIn (Fence.wide.inRound l) n P ops Q rest (a.put o.dst v) w') : wpListIn (Fence.wide.inRound l) n P ops Q (o :: rest) a w := by
  refine wpListIn_plain hgd fun K hK => ?_
  unfold Oper.wpIn
  refine ⟨fun f _ => trivial, ?_⟩
  rw [Oper.semAt_plain (Fence.wide.inRound l) _ _ (by intro c hc; rw [ho] at hc; cases hc)]
  have eg' := eg (#[xv] ++ cap) w
  simp [execOp, ho, resolve, Deferred.ofValue, ht, invoke, hx, Result.andThen] at eg' ⊢
  rw [eg']
  refine ⟨fun h => absurd h (by simp [Fence.wide, Fence.inRound]), ?_⟩
  refine (CallsIn.inRound l (callsIn_wide.2 (by simpa using hc))).mono ?_
  intro e w' hr
  obtain ⟨v, rfl, h⟩ := hR e w' hr
  exact hK _ _ h
end
/-- In the midst of words: its own blocks, from H on; the keys' map at r. -/
structure WdS {σ : Type} (H r c : Nat) (ks : List (Key σ)) (seen : List ByteArray) (W : World) : Prop where
  res : ∃ v, Blk W (H + 1) #[v] 34
  does : Blk W H #[.map (some r)] 81
  smap : W.heap[H + 2]? = some (.map (seenEnts 0 seen).toArray seen.length)
  scel : Blk W (H + 3) #[.map (some (H + 2))] 120
  dmap : W.heap[r]? = some (.map (keyEnts 0 ks).toArray c)
variable {σ : Type} {H r c : Nat} {ks : List (Key σ)} {seen : List ByteArray}
theorem WdS.chg {W W' : World} {K : Nat → Prop} (h : WdS H r c ks seen W) (k : Chg K W W') (hr : ¬ K r) (h0 : ∀ i, H ≤ i → i < H + 4 → ¬ K i) : WdS H r c ks seen W' := by
  obtain ⟨v, hv⟩ := h.res
  exact ⟨⟨v, k.at hv (h0 _ (by omega) (by omega))⟩, k.at h.does (h0 _ (by omega) (by omega)), k.at h.smap (h0 _ (by omega) (by omega)), k.at h.scel (h0 _ (by omega) (by omega)), k.at h.dmap hr⟩
theorem WdS.next {W W' : World} (h : WdS H r c ks seen W) (k : Below W.heap.size W W') : WdS H r c ks seen W' := h.chg (Chg.ofBelow k (fun _ => False)) (fun q => q) (fun _ _ _ q => q)
theorem chg_obj (w : World) (i : Nat) (o : Obj) : Chg (fun k => k = i) w { w with heap := w.heap.setIfInBounds i o } :=
  ⟨rfl, rfl, rfl, by simp, fun k _ hn => by
    show (w.heap.setIfInBounds i o)[k]? = _
    rw [Array.getElem?_setIfInBounds, if_neg (fun e => hn e.symm)]⟩
theorem WdS.saw {W : World} (h : WdS H r c ks seen W) (hr : r < H) (k : ByteArray) (o : Obj) (ho : o = .map (seenEnts 0 (seen ++ [k])).toArray (seen.length + 1)) : WdS H r c ks (seen ++ [k]) { W with heap := W.heap.setIfInBounds (H + 2) o } := by
  have hc := chg_obj W (H + 2) o
  have hlt : H + 2 < W.heap.size := (Array.getElem?_eq_some_iff.1 h.smap).1
  obtain ⟨v, hv⟩ := h.res
  refine ⟨⟨v, hc.at hv (by omega)⟩, hc.at h.does (by omega), ?_, hc.at h.scel (by omega), hc.at h.dmap (by omega)⟩
  show (W.heap.setIfInBounds (H + 2) o)[H + 2]? = _
  rw [Array.getElem?_setIfInBounds, if_pos rfl, if_pos hlt, ho]
  simp
theorem seen_upd {W : World} (h : WdS H r c ks seen W) (k : ByteArray) (hn : seen.any (fun y => decide (y = k)) = false) :
    (Instr.mapUpdate 120 (.map (some (H + 2))) (.string k) (.bool true)).run Tryz.prog W = .ok () { W with heap := W.heap.setIfInBounds (H + 2) (.map (seenEnts 0 (seen ++ [k])).toArray (seen.length + 1)) } := by
  obtain ⟨p, hp⟩ := find_seen k seen 0 0
  rw [hn] at hp
  have h1 := mapUpdate_at (P := Tryz.prog) Tryz.underlying120 Tryz.underlying9 h.smap k (.bool true) (by simpa using hp)
  rw [h1]
  congr 3
  rw [seen_push]
  simp
theorem lookup_zero {P : Program} {T K E : TypeId} (hT : P.underlying T = some (.map K E)) (hK : P.underlying K = some .string) {w : World} {r : Nat} {es : Array MapEntry} {c : Nat} (hb : w.heap[r]? = some (.map es c)) (k : ByteArray) (z : Value)
    (hz : (zeroValue E).run P w = .ok z w) (hf : Instr.findNow .string (.string k) es.toList 0 = some none) :
    (Instr.lookup T (.map (some r)) (.string k) false).run P w = .ok z w := by
  have h1 := Go.MapKept.run_getObj_map (P := P) hb
  have h2 := Go.MapKept.run_checkKey (P := P) (w := w) hK (k := .string k) trivial es.isEmpty 9999
  have h3 := Go.MapKept.run_findKey (P := P) (w := w) hK hf
  unfold Instr.lookup
  simp only [Sem.run_bind, run_underlying hT, Result.andThen_ok, h1, h2, h3, hz, Sem.run_pure]
  rfl
theorem seen_look {W : World} (h : WdS H r c ks seen W) (k : ByteArray) :
    (Instr.lookup 120 (.map (some (H + 2))) (.string k) false).run Tryz.prog W = .ok (.bool (seen.any (fun y => decide (y = k)))) W := by
  obtain ⟨p, hp⟩ := find_seen k seen 0 0
  cases hs : seen.any (fun y => decide (y = k)) with
  | true => rw [hs] at hp; exact lookup_str (P := Tryz.prog) Tryz.underlying120 Tryz.underlying9 h.smap k p (.bool true) (by simpa using hp)
  | false => rw [hs] at hp; exact lookup_zero (P := Tryz.prog) Tryz.underlying120 Tryz.underlying9 h.smap k (.bool false) (Tryz.zeroValue4 _) (by simpa using hp)
theorem does_some {W : World} (h : WdS H r c ks seen W) (k : ByteArray) (K : Key σ) (hk : findK ks k = some K) :
    (Instr.lookup 81 (.map (some r)) (.string k) true).run Tryz.prog W = .ok (.tuple #[.func (.func K.fn) #[] K.cap, .bool true]) W := by
  obtain ⟨p, hp⟩ := find_ents k ks 0 0
  rw [hk] at hp
  exact lookup_str_ok (P := Tryz.prog) Tryz.underlying81 Tryz.underlying9 h.dmap k p K.val (by simpa using hp)
theorem does_none {W : World} (h : WdS H r c ks seen W) (k : ByteArray) (hk : findK ks k = none) :
    (Instr.lookup 81 (.map (some r)) (.string k) true).run Tryz.prog W = .ok (.tuple #[.nilFunc, .bool false]) W := by
  obtain ⟨p, hp⟩ := find_ents k ks 0 0
  rw [hk] at hp
  exact lookup_str_none (P := Tryz.prog) Tryz.underlying81 Tryz.underlying9 h.dmap k .nilFunc (Tryz.zeroValue73 _) (by simpa using hp)
end Go.Proofs.YtllhbcpbihhdnaaGreatDoor
end
section
set_option linter.unusedVariables false
set_option linter.unusedSimpArgs false
namespace Go.Proofs.YtllhbcpbihhdnaaGreatDoor
open Go.RowKit Go.Shelf Pm
attribute [local go_sem] Oper.semAt_some
set_option maxRecDepth 100000
variable {σ : Type}
/-- What words asks of what its keys' functions keep. -/
structure WClass (H r : Nat) (ks : List (Key σ)) (C : σ → World → Prop) : Prop where
  lv : ∀ s W, C s W → Lv W
  chg : ∀ s W W', C s W → Chg (fun k => H ≤ k) W W' → C s W'
  ent : ∀ K ∈ ks, Enters Tryz.prog K.fn
  call : ∀ K ∈ ks, ∀ (v : ByteArray) s W, C s W → H ≤ W.heap.size → v.size ≤ 100000000 → Calls Tryz.prog K.fn (#[.string v] ++ K.cap) W fun e W' => e = .returned (.int .i64 (K.step v s).2) ∧ C (K.step v s).1 W' ∧ Chg (fun k => k < H ∧ k ≠ r) W W'
theorem WClass.next {H r : Nat} {ks : List (Key σ)} {C : σ → World → Prop} (h : WClass H r ks C) {s : σ} {W W' : World} (hC : C s W) (hb : Below W.heap.size W W') : C s W' := h.chg s W W' hC (Chg.ofBelow hb _)
theorem words_none (s : ByteArray) (hs : s.data.toList = []) (r : Nat) (w : World) : Calls Tryz.prog 42 #[.string s, .map (some r)] w fun e W' => e = .returned (.int .i64 0) ∧ Below w.heap.size w W' := by
  have he : (s.toList == []) = true := by rw [Lib.toList_data, hs]; rfl
  go_enter Tryz.func42, Tryz.ntmps42
  go_wp2
  refine bodyPost_ret (v := .int .i64 0) (by simp [results, Tryz.results42, go_sem]) rfl ⟨rfl, ?_⟩
  exact ((Below.refl _ _).alloc (Nat.le_refl _) _).alloc (by simp) _
theorem run_more {ks : List (Key σ)} {st x : σ} {pre seen : List ByteArray} (h : ∀ rest, wordsRun ks (pre ++ rest) [] st = wordsRun ks rest seen x) (y : ByteArray) {seen' : List ByteArray} {x' : σ} {e : Int} (hs : wordStep ks y seen x = ((seen', x'), e)) :
    (e = 0 → ∀ rest, wordsRun ks (pre ++ [y] ++ rest) [] st = wordsRun ks rest seen' x') ∧ (e ≠ 0 → ∀ rest, wordsRun ks (pre ++ [y] ++ rest) [] st = (x', e)) := by
  constructor
  · intro h0 rest
    rw [List.append_assoc, h, List.singleton_append, wordsRun, hs, if_pos h0]
  · intro h0 rest
    rw [List.append_assoc, h, List.singleton_append, wordsRun, hs, if_neg h0]
theorem keepsFrom_chg {K : Nat → Prop} {B : Nat} {W W' : World} (h : Chg K W W') (hk : ∀ k, K k → k < B) : KeepsFrom B W W' :=
  ⟨h.size, fun k o hB ho _ => h.at ho (fun q => by have := hk k q; omega)⟩
theorem splKp_chg {K : Nat → Prop} {c0 : Nat} {W W' : World} (h : Chg K W W') (hk : ∀ k, K k → k < c0) (hs : c0 + 3 ≤ W.heap.size) : SplKp c0 W W' :=
  fun k h1 h2 => h.block k (by omega) (fun q => by have := hk k q; omega)
theorem split_len (c : UInt8) (n : Nat) : ∀ l : List UInt8, l.length ≤ n → ∀ p ∈ Tok.split c l, p.length ≤ l.length := by
  induction n with
  | zero =>
    intro l hl p hp
    have : l = [] := List.eq_nil_of_length_eq_zero (by omega)
    subst this
    rw [Tok.split_no (by simp)] at hp
    simp at hp
    simp [hp]
  | succ n ih =>
    intro l hl p hp
    rcases Tok.mem_or c l with h | ⟨q, r, rfl, hq⟩
    · rw [Tok.split_no h] at hp
      simp at hp
      simp [hp]
    · rw [Tok.split_at r hq] at hp
      simp at hl ⊢
      rcases List.mem_cons.1 hp with rfl | hp
      · omega
      · have := ih r (by omega) p hp
        omega
theorem parts_size (b : UInt8) (s x : ByteArray) (h : x ∈ parts b s) : x.size ≤ s.size := by
  unfold parts at h
  obtain ⟨l, hl, rfl⟩ := List.mem_map.1 h
  have := split_len b _ _ (Nat.le_refl _) l hl
  have h1 : s.data.toList.length = s.size := by simp
  have h2 : (⟨l.toArray⟩ : ByteArray).size = l.length := rfl
  omega
theorem cut_sizes (x : ByteArray) (b : UInt8) : (cutL x b).size ≤ x.size ∧ (cutR x b).size ≤ x.size := by
  have h1 : x.data.toList.length = x.size := by simp
  have h2 : (cutL x b).size = (Lib.cut x.data.toList [b]).1.length := rfl
  have h3 : (cutR x b).size = (Lib.cut x.data.toList [b]).2.1.length := rfl
  rw [h2, h3, ← h1]
  unfold Lib.cut
  split
  · simp
    omega
  · simp
theorem chg_put (W : World) (D : Nat) (o : Obj) : Chg (fun k => k = D) W (W.putObj D o) := (Chg.refl _ W).grown (grownBy_putObj' W D o) (fun k e _ => by cases e; rfl)
/-- Between two words: all went well. -/
def WdI (H r c : Nat) (ks : List (Key σ)) (C : σ → World → Prop) (st : σ) (pre : List ByteArray) (W : World) : Prop :=
  ∃ seen x, (∀ rest, wordsRun ks (pre ++ rest) [] st = wordsRun ks rest seen x) ∧ C x W ∧ WdS H r c ks seen W ∧ H + 7 ≤ W.heap.size
/-- A word was wrong. -/
def WdX (H : Nat) (ks : List (Key σ)) (C : σ → World → Prop) (st : σ) (cd : Code) (pre : List ByteArray) (W : World) : Prop :=
  cd = .ret ∧ ∃ x e, (∀ rest, wordsRun ks (pre ++ rest) [] st = (x, e)) ∧ C x W ∧ Blk W (H + 1) #[.int .i64 e] 34
theorem WdI.chg {H r c : Nat} {ks : List (Key σ)} {C : σ → World → Prop} {st : σ} {pre : List ByteArray} {W W' : World} {K : Nat → Prop} (h : WdI H r c ks C st pre W) (hC : WClass H r ks C) (hr : r < H) (k : Chg K W W') (hk : ∀ i, K i → H + 4 ≤ i) : WdI H r c ks C st pre W' := by
  obtain ⟨seen, x, h1, h2, h3, h4⟩ := h
  exact ⟨seen, x, h1, hC.chg _ _ _ h2 (k.mono fun i _ q => by have := hk i q; omega), h3.chg k (fun q => by have := hk _ q; omega) (fun i _ _ q => by have := hk i q; omega), Nat.le_trans h4 k.size⟩
theorem WdX.chg {H r : Nat} {ks : List (Key σ)} {C : σ → World → Prop} {st : σ} {cd : Code} {pre : List ByteArray} {W W' : World} {K : Nat → Prop} (h : WdX H ks C st cd pre W) (hC : WClass H r ks C) (k : Chg K W W') (hk : ∀ i, K i → H + 4 ≤ i) : WdX H ks C st cd pre W' := by
  obtain ⟨h0, x, e, h1, h2, h3⟩ := h
  exact ⟨h0, x, e, h1, hC.chg _ _ _ h2 (k.mono fun i _ q => by have := hk i q; omega), h3.chg k (fun q => by have := hk _ q; omega)⟩
theorem chg_grown {W W' : World} {row : Option Nat} {B : Nat} (hg : W.grownBy W' row) (hr : ∀ r, row = some r → B ≤ r ∧ ∃ o : Obj, W.heap[r]? = some o ∧ o.isCells = false) : Chg (fun k => B ≤ k) W W' :=
  (Chg.refl _ W).grown hg (fun k e _ => (hr k e).1)
set_option maxHeartbeats 4000000 in
theorem words_some (s : ByteArray) (hs : s.data.toList ≠ []) (hm : s.size ≤ 100000000) (r c : Nat) (ks : List (Key σ)) (C : σ → World → Prop) (st : σ) (w : World) (hr : r < w.heap.size) (hd : w.heap[r]? = some (.map (keyEnts 0 ks).toArray c)) (hC : WClass w.heap.size r ks C) (h0 : C st w) :
    Calls Tryz.prog 42 #[.string s, .map (some r)] w fun e W' => e = .returned (.int .i64 (wordsRun ks (parts 32 s) [] st).2) ∧ C (wordsRun ks (parts 32 s) [] st).1 W' := by
  have he : (s.toList == []) = false := by rw [Lib.toList_data]; simpa using hs
  have hmm := @run_makeMap Tryz.prog
  have HC := Aside.mk hC
  have H0 := Aside.mk h0
  have HD := Aside.mk hd
  clear hC h0 hd
  refine (callsIn_wide (n := 3)).1 ?_
  refine callsIn_of_wp_marks Tryz.func42 rfl trivial ?_ rfl
  simp only [Tryz.ntmps42, List.size_toArray, List.length_cons, List.length_nil, Nat.reduceAdd, Nat.reduceSub, Array.replicate_succ, Array.replicate_zero, List.push_toArray, List.append_toArray, List.nil_append, List.cons_append]
  gi_wp2_with ((first | refine ⟨trivial, fun h_ => absurd h_ (by simp [Fence.wide]), ?_⟩ | refine ⟨trivial, ?_⟩); gi_at_call 84; refine (callsIn_wide.2 (splitSeq_any s ⟨#[32]⟩ _)).mono ?_; rintro e w' ⟨rfl, hw⟩; have hw' := hw.symm; clear hw; subst hw')
  obtain ⟨H, hH⟩ : ∃ H, w.heap.size = H := ⟨_, rfl⟩
  rw [hH] at HC hr
  simp only [hH, Nat.add_assoc, Nat.reduceAdd]
  obtain ⟨W0, hW0⟩ : ∃ W0, (((((((w.alloc (Obj.cells #[Value.map (some r)] 81)).alloc (Obj.cells #[Value.int IntKind.i64 0] 34)).alloc (Obj.map #[] 0)).alloc (Obj.cells #[Value.map (some (H + 2))] 120)).alloc (Obj.cells #[Value.string s] 9)).alloc (Obj.cells #[Value.string { data := #[32] }] 9)).alloc (Obj.cells #[Value.int IntKind.i64 0] 3)) = W0 := ⟨_, rfl⟩
  rw [hW0]
  have hsz : W0.heap.size = H + 7 := by rw [← hW0]; simp [hH]
  have hgr : Chg (fun k => H ≤ k) w W0 := by
    rw [← hW0]
    exact ((((((Chg.refl _ w).alloc _).alloc _).alloc _).alloc _).alloc _).alloc _ |>.alloc _
  have hat : ∀ k (o : Obj), (#[Obj.cells #[Value.map (some r)] 81, Obj.cells #[Value.int IntKind.i64 0] 34, Obj.map #[] 0, Obj.cells #[Value.map (some (H + 2))] 120, Obj.cells #[Value.string s] 9, Obj.cells #[Value.string { data := #[32] }] 9, Obj.cells #[Value.int IntKind.i64 0] 3] : Array Obj)[k]? = some o → W0.heap[H + k]? = some o := by
    intro k o hk
    have : W0.heap = w.heap ++ #[Obj.cells #[Value.map (some r)] 81, Obj.cells #[Value.int IntKind.i64 0] 34, Obj.map #[] 0, Obj.cells #[Value.map (some (H + 2))] 120, Obj.cells #[Value.string s] 9, Obj.cells #[Value.string { data := #[32] }] 9, Obj.cells #[Value.int IntKind.i64 0] 3] := by
      rw [← hW0]
      show ((((((w.heap.push _).push _).push _).push _).push _).push _).push _ = _
      apply Array.ext'
      simp only [Array.toList_push, Array.toList_append, List.append_assoc, List.cons_append, List.nil_append]
    rw [this, Array.getElem?_append, if_neg (by omega), hH, Nat.add_sub_cancel_left]
    exact hk
  have hS0 : WdS H r c ks [] W0 := ⟨⟨_, hat 1 _ rfl⟩, hat 0 _ rfl, hat 2 _ rfl, hat 3 _ rfl, (hgr.block r (by omega) (by omega)).trans HD.out⟩
  have hA0 : SplAt (H + 4) 32 s W0 := ⟨hat 4 _ rfl, hat 5 _ rfl, hat 6 _ rfl⟩
  have hC0 : C st W0 := HC.out.chg _ _ _ H0.out hgr
  clear hat hgr hW0 H0
  have HI : WdI H r c ks C st [] W0 := ⟨[], st, fun rest => rfl, hC0, hS0, by omega⟩
  refine range_cells rfl (by omega) (gf := 133) (lb := #[.pointer (some ⟨H + 5, 0, none⟩), .pointer (some ⟨H + 4, 0, none⟩), .pointer (some ⟨H + 6, 0, none⟩)]) rfl trivial (enters_of Tryz.func133 (by kernel_rfl) rfl)
    (splitSeq_stops (H + 4) 32 s 2 W0 (by omega) (by omega) hA0) (fun h k => h.trans k) (fun W l o' hl k h1 h2 => World.putObj_heap_other (by omega)) (fun A B h => by obtain ⟨v, rfl⟩ := h; exact KeepsOthers.setCell _ _ _) (Below.refl _ _) (fun _ => rfl)
    (WdI H r c ks C st) (WdX H ks C st) (fun s_ A B row hs_ hg hr_ => hs_.chg HC.out hr (chg_grown hg hr_) (fun i q => by omega)) (fun s_ A B hs_ ht => by obtain ⟨v, rfl⟩ := ht; exact hs_.chg HC.out hr ((Chg.refl (fun k => k = H + 4) A).setCell (fun _ => rfl) v) (fun i q => by omega))
    (fun cd s_ A B row hs_ hg hr_ => hs_.chg HC.out (chg_grown hg hr_) (fun i q => by omega)) HI
    (fun x => { tmps := #[Value.string s, Value.map (some r), undef, Value.pointer (some { block := H, off := 0 }), Value.pointer (some { block := H + 1, off := 0 }), Value.pointer (some { block := H + 3, off := 0 }), .string x, undef, undef, undef, undef, undef, undef, Value.string s, Value.bool false, Value.map (some (H + 2)), Value.string s, Value.func (Fn.func 133) #[] #[.pointer (some ⟨H + 5, 0, none⟩), .pointer (some ⟨H + 4, 0, none⟩), .pointer (some ⟨H + 6, 0, none⟩)], .string x, undef, undef, undef, undef, undef, undef, undef, undef, undef, undef, undef, undef, undef, undef, undef, undef, undef, undef, undef, undef, undef, undef, undef, undef, undef, undef, undef, undef, undef, undef, undef, undef], defers := [] }) ?assign ?body ?done ?stop
  case assign =>
    intro l x W K hK
    gi_wp2
    exact hK
  case body =>
    rintro l pre x W ⟨seen, st1, hrun, hC1, hS, hsz2⟩ hpre
    have hxm : x ∈ parts 32 s := hpre.subset (by simp)
    have hxs := parts_size 32 s x hxm
    obtain ⟨hcl, hcr⟩ := cut_sizes x 61
    have hcut := fun W (hW : Lv W) => cut_any x ⟨#[61]⟩ W hW (by omega)
    have hup := fun W => param_upper (cutL x 61) W (by omega)
    obtain ⟨kl, hkl⟩ : ∃ kl, cutL x 61 = kl := ⟨_, rfl⟩
    obtain ⟨vr, hvr⟩ : ∃ vr, cutR x 61 = vr := ⟨_, rfl⟩
    obtain ⟨ky, hky⟩ : ∃ ky, upB kl = ky := ⟨_, rfl⟩
    have hst : wordStep ks x seen st1 = (if x.data.toList = [] then ((seen, st1), 2) else
      match findK ks (upB (cutL x 61)) with
      | none => ((seen, st1), 10)
      | some K => if seen.any (fun y => decide (y = upB (cutL x 61))) = true then ((seen, st1), 11) else ((seen ++ [upB (cutL x 61)], (K.step (cutR x 61) st1).1), (K.step (cutR x 61) st1).2)) := rfl
    change ∀ W, Lv W → Calls _ _ _ W (fun e w' => e = .returned (.tuple #[.string (cutL x 61), .string (cutR x 61), _]) ∧ _) at hcut
    change ∀ W, Calls _ _ _ W (fun e w' => e = .returned (.string (upB (cutL x 61))) ∧ _) at hup
    rw [hkl, hvr] at hcut
    rw [hkl, hky] at hup
    rw [hkl, hvr, hky] at hst
    generalize (Lib.cut x.data.toList (⟨#[61]⟩ : ByteArray).data.toList).2.2 = bb at hcut
    have hvs : vr.size ≤ 100000000 := by rw [← hvr]; omega
    have hcut := Aside.mk hcut
    have hup := Aside.mk hup
    have T : Aside (Chg (fun k => k < H + 4) W W) := ⟨Chg.refl _ _⟩
    obtain ⟨sn, hsn⟩ : ∃ sn, seen.any (fun y => decide (y = ky)) = sn := ⟨_, rfl⟩
    rw [hsn] at hst
    have hsn := Lib.hid hsn
    clear hpre hxm hxs hcl hcr hkl hvr hky hS0 hA0 hC0 HI HD
    by_cases hx0 : x.data.toList = []
    · rw [if_pos hx0] at hst
      have HR := Aside.mk ((run_more hrun x hst).2 (by decide))
      have hxe : (x.toList == []) = true := by rw [Lib.toList_data, hx0]; rfl
      have hlk : ∃ fv kn, Aside (∀ W, WdS H r c ks seen W → (Instr.lookup 81 (.map (some r)) (.string ky) true).run Tryz.prog W = .ok (.tuple #[fv, .bool kn]) W) := by
        cases hk : findK ks ky with
        | none => exact ⟨_, _, ⟨fun W h => does_none h ky hk⟩⟩
        | some K => exact ⟨_, _, ⟨fun W h => does_some h ky K hk⟩⟩
      obtain ⟨fv, kn, hlk⟩ := hlk
      clear hst hrun hx0
      gi_wp2_with (first | ((first | refine ⟨trivial, fun h_ => absurd h_ (by simp [Fence.wide, Fence.inRound]), ?_⟩ | refine ⟨trivial, ?_⟩); gi_at_call 24; refine (CallsIn.inRound l (callsIn_wide.2 (hcut.out _ (HC.out.lv _ _ hC1)))).mono ?_; rintro e w1 ⟨rfl, hb⟩; replace hS := hS.next hb; replace hC1 := HC.out.next hC1 hb; replace T := Aside.mk (T.out.trans (Chg.ofBelow hb (fun k => k < H + 4)) (fun _ _ q => q)); clear hb) | ((first | refine ⟨trivial, fun h_ => absurd h_ (by simp [Fence.wide, Fence.inRound]), ?_⟩ | refine ⟨trivial, ?_⟩); gi_at_call 51; refine (CallsIn.inRound l (callsIn_wide.2 (hup.out _))).mono ?_; rintro e w2 ⟨rfl, hb⟩; replace hS := hS.next hb; replace hC1 := HC.out.next hC1 hb; replace T := Aside.mk (T.out.trans (Chg.ofBelow hb (fun k => k < H + 4)) (fun _ _ q => q)); clear hb; have z0 := Blk.cell hS.does 0 _ rfl; have z3 := Blk.cell hS.scel 0 _ rfl; have hl1 := hlk.out _ hS; have hl2 := seen_look hS ky; rw [hsn.out] at hl2; obtain ⟨v_, hv⟩ := hS.res; have z1 := Blk.cell hv 0 _ rfl; have y1 := Blk.free hv 0; have HV := Aside.mk hv; clear hv))
      exact ⟨keepsFrom_chg (T.out.setCell (p := ⟨H + 1, 0, none⟩) (fun _ => by simp) _) (fun _ q => by omega), rfl, st1, _, HR.out, HC.out.chg _ _ _ hC1 ((Chg.refl (fun k => k = H + 1) _).setCell (fun _ => rfl) _ |>.mono fun i _ q => by omega), by simpa using Blk.set HV.out 0 _⟩
    · rw [if_neg hx0] at hst
      have hxe : (x.toList == []) = false := by rw [Lib.toList_data]; simpa using hx0
      clear hx0
      cases hk : findK ks ky with
      | none =>
        rw [hk] at hst
        dsimp only at hst
        have HR := Aside.mk ((run_more hrun x hst).2 (by decide))
        have hlk := Aside.mk (fun W (h : WdS H r c ks seen W) => does_none h ky hk)
        clear hst hrun hk
        gi_wp2_with (first | ((first | refine ⟨trivial, fun h_ => absurd h_ (by simp [Fence.wide, Fence.inRound]), ?_⟩ | refine ⟨trivial, ?_⟩); gi_at_call 24; refine (CallsIn.inRound l (callsIn_wide.2 (hcut.out _ (HC.out.lv _ _ hC1)))).mono ?_; rintro e w1 ⟨rfl, hb⟩; replace hS := hS.next hb; replace hC1 := HC.out.next hC1 hb; replace T := Aside.mk (T.out.trans (Chg.ofBelow hb (fun k => k < H + 4)) (fun _ _ q => q)); clear hb) | ((first | refine ⟨trivial, fun h_ => absurd h_ (by simp [Fence.wide, Fence.inRound]), ?_⟩ | refine ⟨trivial, ?_⟩); gi_at_call 51; refine (CallsIn.inRound l (callsIn_wide.2 (hup.out _))).mono ?_; rintro e w2 ⟨rfl, hb⟩; replace hS := hS.next hb; replace hC1 := HC.out.next hC1 hb; replace T := Aside.mk (T.out.trans (Chg.ofBelow hb (fun k => k < H + 4)) (fun _ _ q => q)); clear hb; have z0 := Blk.cell hS.does 0 _ rfl; have z3 := Blk.cell hS.scel 0 _ rfl; have hl1 := hlk.out _ hS; have hl2 := seen_look hS ky; rw [hsn.out] at hl2; obtain ⟨v_, hv⟩ := hS.res; have z1 := Blk.cell hv 0 _ rfl; have y1 := Blk.free hv 0; have HV := Aside.mk hv; clear hv))
        exact ⟨keepsFrom_chg (T.out.setCell (p := ⟨H + 1, 0, none⟩) (fun _ => by simp) _) (fun _ q => by omega), rfl, st1, _, HR.out, HC.out.chg _ _ _ hC1 ((Chg.refl (fun k => k = H + 1) _).setCell (fun _ => rfl) _ |>.mono fun i _ q => by omega), by simpa using Blk.set HV.out 0 _⟩
      | some K =>
        rw [hk] at hst
        dsimp only at hst
        have hlk := Aside.mk (fun W (h : WdS H r c ks seen W) => does_some h ky K hk)
        have hKm : K ∈ ks := List.mem_of_find?_eq_some hk
        clear hk
        cases sn with
        | true =>
          rw [if_pos rfl] at hst
          have HR := Aside.mk ((run_more hrun x hst).2 (by decide))
          clear hst hrun
          gi_wp2_with (first | ((first | refine ⟨trivial, fun h_ => absurd h_ (by simp [Fence.wide, Fence.inRound]), ?_⟩ | refine ⟨trivial, ?_⟩); gi_at_call 24; refine (CallsIn.inRound l (callsIn_wide.2 (hcut.out _ (HC.out.lv _ _ hC1)))).mono ?_; rintro e w1 ⟨rfl, hb⟩; replace hS := hS.next hb; replace hC1 := HC.out.next hC1 hb; replace T := Aside.mk (T.out.trans (Chg.ofBelow hb (fun k => k < H + 4)) (fun _ _ q => q)); clear hb) | ((first | refine ⟨trivial, fun h_ => absurd h_ (by simp [Fence.wide, Fence.inRound]), ?_⟩ | refine ⟨trivial, ?_⟩); gi_at_call 51; refine (CallsIn.inRound l (callsIn_wide.2 (hup.out _))).mono ?_; rintro e w2 ⟨rfl, hb⟩; replace hS := hS.next hb; replace hC1 := HC.out.next hC1 hb; replace T := Aside.mk (T.out.trans (Chg.ofBelow hb (fun k => k < H + 4)) (fun _ _ q => q)); clear hb; have z0 := Blk.cell hS.does 0 _ rfl; have z3 := Blk.cell hS.scel 0 _ rfl; have hl1 := hlk.out _ hS; have hl2 := seen_look hS ky; rw [hsn.out] at hl2; obtain ⟨v_, hv⟩ := hS.res; have z1 := Blk.cell hv 0 _ rfl; have y1 := Blk.free hv 0; have HV := Aside.mk hv; clear hv))
          exact ⟨keepsFrom_chg (T.out.setCell (p := ⟨H + 1, 0, none⟩) (fun _ => by simp) _) (fun _ q => by omega), rfl, st1, _, HR.out, HC.out.chg _ _ _ hC1 ((Chg.refl (fun k => k = H + 1) _).setCell (fun _ => rfl) _ |>.mono fun i _ q => by omega), by simpa using Blk.set HV.out 0 _⟩
        | false =>
          rw [if_neg (by simp)] at hst
          have hcall := Aside.mk (fun W h1 h2 => HC.out.call K hKm vr st1 W h1 h2 hvs)
          obtain ⟨st2, e2, hs2⟩ : ∃ st2 e2, K.step vr st1 = (st2, e2) := ⟨_, _, rfl⟩
          rw [hs2] at hst hcall
          dsimp only at hst hcall
          have HRR := Aside.mk (run_more hrun x hst)
          clear hst hrun hs2
          have ee : Aside (e2 = 0) ∨ Aside (e2 ≠ 0) := by by_cases h : e2 = 0; exact .inl ⟨h⟩; exact .inr ⟨h⟩
          rcases ee with ee | ee
          · have e3 : (e2 == 0) = true := by simpa using ee.out
            have e4 : (e2 != 0) = false := by simpa using ee.out
            gi_wp2_with (first | ((first | refine ⟨trivial, fun h_ => absurd h_ (by simp [Fence.wide, Fence.inRound]), ?_⟩ | refine ⟨trivial, ?_⟩); gi_at_call 24; refine (CallsIn.inRound l (callsIn_wide.2 (hcut.out _ (HC.out.lv _ _ hC1)))).mono ?_; rintro e w1 ⟨rfl, hb⟩; replace hS := hS.next hb; replace hC1 := HC.out.next hC1 hb; replace T := Aside.mk (T.out.trans (Chg.ofBelow hb (fun k => k < H + 4)) (fun _ _ q => q)); clear hb) | ((first | refine ⟨trivial, fun h_ => absurd h_ (by simp [Fence.wide, Fence.inRound]), ?_⟩ | refine ⟨trivial, ?_⟩); gi_at_call 51; refine (CallsIn.inRound l (callsIn_wide.2 (hup.out _))).mono ?_; rintro e w2 ⟨rfl, hb⟩; replace hS := hS.next hb; replace hC1 := HC.out.next hC1 hb; replace T := Aside.mk (T.out.trans (Chg.ofBelow hb (fun k => k < H + 4)) (fun _ _ q => q)); clear hb; have z0 := Blk.cell hS.does 0 _ rfl; have z3 := Blk.cell hS.scel 0 _ rfl; have hl1 := hlk.out _ hS; have hl2 := seen_look hS ky; rw [hsn.out] at hl2; obtain ⟨v_, hv⟩ := hS.res; have z1 := Blk.cell hv 0 _ rfl; have y1 := Blk.free hv 0; have HV := Aside.mk hv; clear hv; have hu := seen_upd hS ky hsn.out) | (refine stepIn_callv (o := ⟨some 47, _, _, _, _, _⟩) l rfl (.tmp 45) (.tmp 46) _ rfl K.fn K.cap rfl (HC.out.ent K hKm) (.string vr) rfl _ (hcall.out _ (HC.out.chg _ _ _ hC1 ((chg_obj _ (H + 2) _).mono fun i _ q => by omega)) (by simp; have := T.out.size; omega)) ?_; rintro e w4 ⟨rfl, hC4, hb4⟩; refine ⟨_, rfl, ?_⟩; have hS4 := (hS.saw hr ky _ rfl).chg hb4 (fun q => q.2 rfl) (fun i h1 _ q => by omega); have T4 := Aside.mk ((T.out.trans ((chg_obj _ (H + 2) _).mono (K' := fun k => k < H + 4) fun i _ q => by omega) (fun _ _ q => q)).trans (hb4.mono (K' := fun k => k < H + 4) fun i _ q => by omega) (fun _ _ q => q)); clear hu hl1 hl2 z0 z1 z3 y1 HV hb4; obtain ⟨v4, hv4⟩ := hS4.res; have z1 := Blk.cell hv4 0 _ rfl; have y1 := Blk.free hv4 0; have HV4 := Aside.mk hv4; clear hv4))
            exact ⟨keepsFrom_chg T4.out (fun _ q => by omega), splKp_chg T4.out (fun _ q => q) (by omega), _, st2, HRR.out.1 ee.out, hC4, hS4, Nat.le_trans hsz2 T4.out.size⟩
          · have e3 : (e2 == 0) = false := by simpa using ee.out
            have e4 : (e2 != 0) = true := by simpa using ee.out
            gi_wp2_with (first | ((first | refine ⟨trivial, fun h_ => absurd h_ (by simp [Fence.wide, Fence.inRound]), ?_⟩ | refine ⟨trivial, ?_⟩); gi_at_call 24; refine (CallsIn.inRound l (callsIn_wide.2 (hcut.out _ (HC.out.lv _ _ hC1)))).mono ?_; rintro e w1 ⟨rfl, hb⟩; replace hS := hS.next hb; replace hC1 := HC.out.next hC1 hb; replace T := Aside.mk (T.out.trans (Chg.ofBelow hb (fun k => k < H + 4)) (fun _ _ q => q)); clear hb) | ((first | refine ⟨trivial, fun h_ => absurd h_ (by simp [Fence.wide, Fence.inRound]), ?_⟩ | refine ⟨trivial, ?_⟩); gi_at_call 51; refine (CallsIn.inRound l (callsIn_wide.2 (hup.out _))).mono ?_; rintro e w2 ⟨rfl, hb⟩; replace hS := hS.next hb; replace hC1 := HC.out.next hC1 hb; replace T := Aside.mk (T.out.trans (Chg.ofBelow hb (fun k => k < H + 4)) (fun _ _ q => q)); clear hb; have z0 := Blk.cell hS.does 0 _ rfl; have z3 := Blk.cell hS.scel 0 _ rfl; have hl1 := hlk.out _ hS; have hl2 := seen_look hS ky; rw [hsn.out] at hl2; obtain ⟨v_, hv⟩ := hS.res; have z1 := Blk.cell hv 0 _ rfl; have y1 := Blk.free hv 0; have HV := Aside.mk hv; clear hv; have hu := seen_upd hS ky hsn.out) | (refine stepIn_callv (o := ⟨some 47, _, _, _, _, _⟩) l rfl (.tmp 45) (.tmp 46) _ rfl K.fn K.cap rfl (HC.out.ent K hKm) (.string vr) rfl _ (hcall.out _ (HC.out.chg _ _ _ hC1 ((chg_obj _ (H + 2) _).mono fun i _ q => by omega)) (by simp; have := T.out.size; omega)) ?_; rintro e w4 ⟨rfl, hC4, hb4⟩; refine ⟨_, rfl, ?_⟩; have hS4 := (hS.saw hr ky _ rfl).chg hb4 (fun q => q.2 rfl) (fun i h1 _ q => by omega); have T4 := Aside.mk ((T.out.trans ((chg_obj _ (H + 2) _).mono (K' := fun k => k < H + 4) fun i _ q => by omega) (fun _ _ q => q)).trans (hb4.mono (K' := fun k => k < H + 4) fun i _ q => by omega) (fun _ _ q => q)); clear hu hl1 hl2 z0 z1 z3 y1 HV hb4; obtain ⟨v4, hv4⟩ := hS4.res; have z1 := Blk.cell hv4 0 _ rfl; have y1 := Blk.free hv4 0; have HV4 := Aside.mk hv4; clear hv4))
            exact ⟨keepsFrom_chg (T4.out.setCell (p := ⟨H + 1, 0, none⟩) (fun _ => by simp) _) (fun _ q => by omega), rfl, st2, _, HRR.out.2 ee.out, HC.out.chg _ _ _ hC4 ((Chg.refl (fun k => k = H + 1) _).setCell (fun _ => rfl) _ |>.mono fun i _ q => by omega), by simpa using Blk.set HV4.out 0 _⟩
  case done =>
    rintro D xs W hD rfl ⟨seen, st1, hrun, hC1, hS, hsz2⟩ hK
    have hrun1 := Aside.mk (hrun [])
    obtain ⟨v, hv⟩ := hS.res
    have z1 := Blk.cell hv 0 _ rfl
    have y1 := Blk.free hv 0
    have CC := Aside.mk hC1
    have HV := Aside.mk hv
    clear hrun hC1 hS hv
    gi_wp2
    have hK' := (KeepsOthers.setCell W ⟨H + 1, 0, none⟩ (.int .i64 0)).same D _ hK rfl
    refine ⟨by simp, .inl ⟨_, _, rfl, run_takeDeferred hK', ?_⟩⟩
    have hB := Blk.set HV.out 0 (.int .i64 0)
    have hc5 := Blk.cell (Blk.chg hB (chg_put _ D (.deferred none)) (by omega)) 0 (.int .i64 0) (by simp)
    rw [List.append_nil] at hrun1
    refine ⟨.int .i64 0, ?_, by rw [hrun1.out]; rfl, by rw [hrun1.out]; exact HC.out.chg _ _ _ (HC.out.chg _ _ _ CC.out ((Chg.refl (fun k => k = H + 1) W).setCell (fun _ => rfl) _ |>.mono fun i _ q => by omega)) ((chg_put _ D _).mono fun i _ q => by omega)⟩
    simp [results, Tryz.f42, go_sem, hc5]
  case stop =>
    rintro D cd pre W hD ⟨⟨rfl, x1, e1, hrun, hC1, hv⟩, hpre⟩ hK
    obtain ⟨rest, hrest⟩ := hpre
    have hrun1 := hrun rest
    rw [hrest] at hrun1
    gi_wp2
    refine ⟨by simp, .inl ⟨_, _, rfl, run_takeDeferred hK, ?_⟩⟩
    have hc5 := Blk.cell (Blk.chg hv (chg_put _ D (.deferred none)) (by omega)) 0 (.int .i64 e1) (by simp)
    refine ⟨.int .i64 e1, ?_, by rw [hrun1], by rw [hrun1]; exact HC.out.chg _ _ _ hC1 ((chg_put _ D _).mono fun i _ q => by omega)⟩
    simp [results, Tryz.f42, go_sem, hc5]
theorem words_any (s : ByteArray) (hm : s.size ≤ 100000000) (r c : Nat) (ks : List (Key σ)) (C : σ → World → Prop) (st : σ) (w : World) (hr : r < w.heap.size) (hd : w.heap[r]? = some (.map (keyEnts 0 ks).toArray c)) (hC : WClass w.heap.size r ks C) (h0 : C st w) :
    Calls Tryz.prog 42 #[.string s, .map (some r)] w fun e W' => e = .returned (.int .i64 (wordsAll ks s st).2) ∧ C (wordsAll ks s st).1 W' := by
  unfold wordsAll
  by_cases hs : s.data.toList = []
  · rw [if_pos hs]
    exact (words_none s hs r w).mono fun _ _ ⟨h1, h2⟩ => ⟨h1, hC.next h0 h2⟩
  · rw [if_neg hs]
    exact words_some s hs hm r c ks C st w hr hd hC h0
end Go.Proofs.YtllhbcpbihhdnaaGreatDoor
end
section
set_option linter.unusedVariables false
set_option linter.unusedSimpArgs false
namespace Go.Proofs.YtllhbcpbihhdnaaGreatDoor
open Go.RowKit
set_option maxRecDepth 100000
theorem plain_any (c : UInt8) (w : World) : Calls Tryz.prog 107 #[.int .u8 c.toNat] w fun e w' => e = .returned (.bool (Txt.plain c)) ∧ w' = w := by
  have hcr := c.toNat_lt
  go_enter Tryz.func107, Tryz.ntmps107
  go_wp2
  all_goals
    go_ret
    refine ⟨ret_bool ?_, rfl⟩
    unfold Txt.plain
    rw [Bool.eq_iff_iff]
    simp only [decide_eq_true_eq, bne_iff_ne, beq_iff_eq, ne_eq, reduceCtorEq, false_iff, Bool.false_eq_true, Bool.and_eq_true, Bool.or_eq_true]
    omega
end Go.Proofs.YtllhbcpbihhdnaaGreatDoor
end
section
set_option linter.unusedVariables false
namespace Go.Proofs
open Go.Shelf Go.RowKit
set_option maxRecDepth 100000
def Tryz.bld_ren : Go.Shelf.Ren := ⟨fun n => if n = 167 then 68 else Tryz.lays156_ren.f n, Tryz.lays156_ren.t, Tryz.lays156_ren.g⟩
theorem Tryz.bld_lays : Lays.n167 Tryz.prog Tryz.bld_ren := {
  mixed := Tryz.lays156.mixed
  f167 := Tryz.func68.trans (congrArg some (by kernel_rfl))
  f240 := Tryz.lays156.f240
  f276 := Tryz.lays156.f276
  t0 := Tryz.lays156.t0
  a0 := Tryz.lays156.a0
  z0 := Tryz.lays156.z0
  v0 := Tryz.lays156.v0
  t4 := Tryz.lays156.t4
  a4 := Tryz.lays156.a4
  z4 := Tryz.lays156.z4
  v4 := Tryz.lays156.v4
  t5 := Tryz.Builder_Extra_156.t5
  a5 := Tryz.Builder_Extra_156.a5
  z5 := Tryz.Builder_Extra_156.z5
  v5 := Tryz.Builder_Extra_156.v5
  t9 := Tryz.lays156.t9
  a9 := Tryz.lays156.a9
  z9 := Tryz.lays156.z9
  v9 := Tryz.lays156.v9
  t20 := Tryz.lays156.t20
  a20 := Tryz.lays156.a20
  z20 := Tryz.lays156.z20
  v20 := Tryz.lays156.v20
  t37 := Tryz.lays156.t37
  a37 := Tryz.lays156.a37
  z37 := Tryz.lays156.z37
  v37 := Tryz.lays156.v37
  t70 := Tryz.lays156.t70
  a70 := Tryz.lays156.a70
  z70 := Tryz.lays156.z70
  v70 := Tryz.lays156.v70
  t72 := Tryz.lays156.t72
  a72 := Tryz.lays156.a72
  z72 := Tryz.lays156.z72
  v72 := Tryz.lays156.v72
  t75 := Tryz.lays156.t75
  a75 := Tryz.lays156.a75
  z75 := Tryz.lays156.z75
  v75 := Tryz.lays156.v75
  t164 := Tryz.lays156.t164
  a164 := Tryz.lays156.a164
  z164 := Tryz.lays156.z164
  v164 := Tryz.lays156.v164 }
theorem Tryz.bld_extra : Builder.Extra Tryz.prog Tryz.bld_ren := {
  sizeBuilder := Tryz.Builder_Extra_156.sizeBuilder
  liesBuilder := Tryz.Builder_Extra_156.liesBuilder
  t5 := Tryz.Builder_Extra_156.t5
  a5 := Tryz.Builder_Extra_156.a5
  z5 := Tryz.Builder_Extra_156.z5
  v5 := Tryz.Builder_Extra_156.v5
  infoByte := Tryz.Builder_Extra_156.infoByte
  cellsByte := Tryz.Builder_Extra_156.cellsByte
  sizeByte := Tryz.Builder_Extra_156.sizeByte
  neB5 := by decide }
end Go.Proofs
namespace Go.Proofs.YtllhbcpbihhdnaaGreatDoor
open Go.RowKit
set_option maxRecDepth 100000
/-- A builder at block b, that holds these bytes; its row lies from R on. -/
structure Bd (b R : Nat) (l : List UInt8) (w : World) : Prop where
  lt : b < R
  ex : ∃ p v, (p = .pointer none ∨ p = .pointer (some ⟨b, 0, none⟩)) ∧ Blk w b #[p, v] 94 ∧ w.ownsRow R 5 1 v l.length (Lib.byteCells l)
theorem byteCells_len (l : List UInt8) : (Lib.byteCells l).length = l.length := by simp [Lib.byteCells]
theorem byteCells_snoc (l : List UInt8) (c : UInt8) : Lib.byteCells l ++ [.int .u8 (c.toNat : Int)] = Lib.byteCells (l ++ [c]) := by simp [Lib.byteCells]
theorem Bd.new {b R : Nat} {w : World} (hlt : b < R) (h : Blk w b #[.pointer none, .slice none 0 0] 94) : Bd b R [] w := ⟨hlt, _, _, .inl rfl, h, World.ownsRow_nil _ _ _ _⟩
theorem Bd.blk {b R : Nat} {l : List UInt8} {w : World} (h : Bd b R l w) : b < w.heap.size := by
  obtain ⟨_, _, _, hb, _⟩ := h.ex
  exact hb.lt
theorem Bd.next {b R : Nat} {l : List UInt8} {w w' : World} (h : Bd b R l w) (hb : Below w.heap.size w w') : Bd b R l w' := by
  obtain ⟨p, v, hp, hk, ho⟩ := h.ex
  refine ⟨h.lt, p, v, hp, hk.below hb, ho.kept (row := none) ⟨hb.os, hb.tape, hb.output, hb.size, fun i hi _ => hb.block i hi⟩ ?_⟩
  cases v.ownBlock with
  | none => exact .inl rfl
  | some k => exact .inr (by simp)
theorem Bd.old {b R B : Nat} {l : List UInt8} {w : World} (h : Bd b R l w) (hB : B ≤ b) : Lib.IsBuilder 94 5 B b (Lib.byteCells l) w := by
  obtain ⟨p, v, hp, hk, ho⟩ := h.ex
  have hlt := h.lt
  have ho2 : w.ownsRow B 5 1 v (Lib.byteCells l).length (Lib.byteCells l) := by rw [byteCells_len]; exact ho.mono (by omega)
  have hne : v.ownBlock ≠ some b := fun e_ => by have := (World.ownsRow.lt ho b e_).1; omega
  rcases hp with rfl | rfl
  · exact .inl ⟨hB, v, hk, ho2, hne⟩
  · exact .inr ⟨hB, v, hk, ho2, hne⟩
theorem u8Info : ∃ i, Tryz.prog.info? 5 = some i ∧ i.zero = some (.int .u8 0) ∧ i.size = 1 ∧ i.bytes = 1 := by
  have : (Tryz.prog.info? 5).map (fun i => (i.zero, i.size, i.bytes)) = some (some (.int .u8 0), 1, 1) := by kernel_rfl
  exact info_parts this
section
variable {ops : Array Oper} {rest : List Oper} {o : Oper} {a : Act} {w : World} {Q : Exit → Act → World → Prop}
/-- append of one byte, at a plain region. -/
theorem app_u8 (hgd : o.guard = none) (s x : Operand) (ho : o.op = .call { callee := .builtin .append, args := #[s, x], argTypes := #[40, 40] }) (R : Nat) (v : Value) (l : List UInt8) (hs : a.eval s = v)
    (hown : w.ownsRow R 5 1 v l.length (Lib.byteCells l)) (g0 : Nat) (hx : a.eval x = .slice (some ⟨g0, 0, none⟩) 1 1) (c : UInt8) (hc : w.heap[g0]? = some (.cells #[.int .u8 c.toNat] 5 (0, 0))) (hn : l.length ≤ 1000000000) (hbase : R ≤ w.heap.size)
    (h : ∀ g cap w', w'.ownsRow R 5 1 (.slice (some ⟨g, 0, none⟩) (l.length + 1) cap) (l ++ [c]).length (Lib.byteCells (l ++ [c])) → w.grownBy w' v.ownBlock → wpList Tryz.prog ops Q rest (a.put o.dst (.slice (some ⟨g, 0, none⟩) (l.length + 1) cap)) w') :
    wpList Tryz.prog ops Q (o :: rest) a w := by
  obtain ⟨i, hi, hz, hsz, hby⟩ := u8Info
  refine wpList_append_lies w hgd s x 40 ho R 5 i (.int .u8 0) 1 1 Tryz.underlying40 hi hz hsz hby rfl (by omega) v l.length (Lib.byteCells l) hs hown ⟨g0, 0, none⟩ 1 1 [.int .u8 c.toNat] hx rfl
    (by have := World.news_of_block hc; simpa using this) (by simp [Value.oneCell']) (by omega) (by unfold maxLen; omega) (by omega) hbase _ rfl ?_
  intro g cap w' h1 h2 h3 h4
  refine h g cap w' ?_ h2
  rw [← byteCells_snoc]
  simpa using h1
end
set_option maxHeartbeats 4000000 in
theorem writeByte_of (b R : Nat) (l : List UInt8) (c : UInt8) (w w1 : World) (v : Value) (hlt : b < R) (hk : Blk w1 b #[.pointer (some ⟨b, 0, none⟩), v] 94) (ho : w1.ownsRow R 5 1 v l.length (Lib.byteCells l)) (hl : l.length ≤ 1000000000) (hR : R ≤ w1.heap.size) (hC : Chg (fun k => k = b ∨ R ≤ k) w w1)
    (hcc : Calls Tryz.prog 100 #[.pointer (some ⟨b, 0, none⟩)] w fun e w' => e = .returned (.tuple #[]) ∧ w' = w1) :
    Calls Tryz.prog 68 #[.pointer (some ⟨b, 0, none⟩), .int .u8 c.toNat] w fun e w' => e = .returned .nilIface ∧ Bd b R (l ++ [c]) w' ∧ Chg (fun k => k = b ∨ R ≤ k) w w' := by
  have z1 := hk.cell 1 _ rfl
  have y1 := hk.free 1
  have HC := Aside.mk hC
  have HO := Aside.mk ho
  have HK := Aside.mk hk
  have zl := hk.lt
  clear hC ho hk
  go_enter Tryz.func68, Tryz.ntmps68
  go_wp2_with (first | (go_at_call 100; (with_reducible refine hcc.mono ?_); rintro e w' ⟨rfl, hw⟩; subst hw) | (at_builtin; refine app_u8 rfl _ _ rfl R _ l (by rfl) (World.ownsRow.alloc HO.out _) w'.heap.size (by rfl) c (heap_alloc_new _ _) hl (by simp; omega) ?_; intro g cap w4 hr4 hg4; have hne := Aside.mk (fun e_ => by have := (World.ownsRow.lt HO.out b e_).1; omega : v.ownBlock ≠ some b); have hK4 : Aside (Blk w4 b _ _) := Aside.mk ((hg4.block b (by simp; omega) (fun e_ => hne.out e_.symm)).trans (HK.out.old _)); have hC4 := Aside.mk ((HC.out.alloc (.cells #[.int .u8 c.toNat] 5)).grown hg4 (fun k e_ _ => .inr (World.ownsRow.lt HO.out k e_).1)); have R4 := Aside.mk hr4; clear hr4 hg4 z1 y1 zl; have z1 := Blk.cell hK4.out 1 _ rfl; have y1 := Blk.free hK4.out 1; have zl := Blk.lt hK4.out))
  go_ret
  refine ⟨rfl, ⟨hlt, _, _, .inr rfl, by simpa using Blk.set hK4.out 1 _, ?_⟩, hC4.out.setCell (fun _ => .inl rfl) _⟩
  exact R4.out.kept (row := some b) ⟨rfl, rfl, rfl, by simp [World.setCell], fun k _ hk => Below.heap_setCell _ _ _ _ (fun e => hk (by simp [e]))⟩ (Or.inr (fun e_ => by have := (World.ownsRow.lt R4.out b e_).1; omega))
theorem writeByte_any (b R : Nat) (l : List UInt8) (c : UInt8) (w : World) (h : Bd b R l w) (hl : l.length ≤ 1000000000) (hR : R ≤ w.heap.size) :
    Calls Tryz.prog 68 #[.pointer (some ⟨b, 0, none⟩), .int .u8 c.toNat] w fun e w' => e = .returned .nilIface ∧ Bd b R (l ++ [c]) w' ∧ Chg (fun k => k = b ∨ R ≤ k) w w' := by
  obtain ⟨p, v, hp, hk, ho⟩ := h.ex
  rcases hp with rfl | rfl
  · exact writeByte_of b R l c w (w.setCell ⟨b, 0, none⟩ (.pointer (some ⟨b, 0, none⟩))) v h.lt (by simpa using hk.set 0 (.pointer (some ⟨b, 0, none⟩))) (ho.kept (row := some b) ⟨rfl, rfl, rfl, by simp [World.setCell], fun k _ hk => Below.heap_setCell _ _ _ _ (fun e => hk (by simp [e]))⟩ (Or.inr (fun e_ => by have := (World.ownsRow.lt ho b e_).1; have := h.lt; omega))) hl (by simpa using hR)
      ((Chg.refl _ w).setCell (fun _ => .inl rfl) _) (Any.Builder_copyCheck_fresh { Tryz.bld_lays with } Tryz.bld_extra.toX72 b w (hk.cell 0 _ rfl) (by unfold World.shape?; rw [show w.heap[b]? = _ from hk]; rfl) (hk.free 0))
  · exact writeByte_of b R l c w w v h.lt hk ho hl hR (Chg.refl _ w) (Any.Builder_copyCheck_used { Tryz.bld_lays with } Tryz.bld_extra.toX72 b w (hk.cell 0 _ rfl))
theorem writeByte_n (b R : Nat) (l : List UInt8) (c : UInt8) (w : World) (h : Bd b R l w) (hl : l.length ≤ 1000000000) (hR : R ≤ w.heap.size) (n : Int) (hn : n = c.toNat) :
    Calls Tryz.prog 68 #[.pointer (some ⟨b, 0, none⟩), .int .u8 n] w fun e w' => e = .returned .nilIface ∧ Bd b R (l ++ [c]) w' ∧ Chg (fun k => k = b ∨ R ≤ k) w w' := hn ▸ writeByte_any b R l c w h hl hR
theorem string_any (B b R : Nat) (l : List UInt8) (w : World) (h : Bd b R l w) (hB : B ≤ b) :
    Calls Tryz.prog 69 #[.pointer (some ⟨b, 0, none⟩)] w fun e w' => e = .returned (.string ⟨l.toArray⟩) ∧ Below B w w' :=
  Tryz.Builder_String_any B b l w (h.old hB) (by have := h.blk; omega)
end Go.Proofs.YtllhbcpbihhdnaaGreatDoor
end
section
set_option linter.unusedVariables false
set_option linter.unusedSimpArgs false
namespace Tx
/-- A digit's sign. -/
def hex (n : Nat) : UInt8 := [48, 49, 50, 51, 52, 53, 54, 55, 56, 57, 65, 66, 67, 68, 69, 70].getD n 0
/-- A byte, as xtext. -/
def enc1 (c : UInt8) : List UInt8 := if Txt.plain c then [c] else [43, hex (c.toNat / 16), hex (c.toNat % 16)]
def enc (l : List UInt8) : List UInt8 := l.flatMap enc1
theorem enc_snoc (l : List UInt8) (c : UInt8) : enc (l ++ [c]) = enc l ++ enc1 c := by simp [enc]
theorem enc1_len (c : UInt8) : (enc1 c).length ≤ 3 := by unfold enc1; split <;> simp
theorem enc_len (l : List UInt8) : (enc l).length ≤ 3 * l.length := by
  induction l with
  | nil => simp [enc]
  | cons c l ih => have := enc1_len c; simp [enc] at *; omega
theorem hex_at (n : Nat) (h : n < 16) : ((#[48, 49, 50, 51, 52, 53, 54, 55, 56, 57, 65, 66, 67, 68, 69, 70] : Array UInt8)[n]'(by simpa using h)) = hex n := by
  have : n = 0 ∨ n = 1 ∨ n = 2 ∨ n = 3 ∨ n = 4 ∨ n = 5 ∨ n = 6 ∨ n = 7 ∨ n = 8 ∨ n = 9 ∨ n = 10 ∨ n = 11 ∨ n = 12 ∨ n = 13 ∨ n = 14 ∨ n = 15 := by omega
  rcases this with rfl | rfl | rfl | rfl | rfl | rfl | rfl | rfl | rfl | rfl | rfl | rfl | rfl | rfl | rfl | rfl <;> rfl
end Tx
namespace Go.Proofs.YtllhbcpbihhdnaaGreatDoor
open Go.RowKit
set_option maxRecDepth 100000
/-- In Encode: what the builder holds; the bytes behind it. -/
structure EncR (s : ByteArray) (w : World) (l : List UInt8) (W : World) : Prop where
  bld : Bd w.heap.size (w.heap.size + 2) l W
  low : Below w.heap.size w W
  row : ∀ j, j < s.size → W.cell? ⟨w.heap.size + 1, j, none⟩ = some (.int .u8 (s.data.toList.getD j 0).toNat)
  sz : w.heap.size + 2 ≤ W.heap.size
theorem Chg.cellAt {K : Nat → Prop} {w w' : World} (h : Chg K w w') {a : Addr} {v : Value} (hc : w.cell? a = some v) (hk : ¬ K a.block) : w'.cell? a = some v := by
  have hlt := World.block_lt_of_cell? w a hc
  unfold World.cell? at hc ⊢
  rw [h.block _ hlt hk]
  exact hc
theorem EncR.wrote {s : ByteArray} {w : World} {l l' : List UInt8} {W W' : World} (h : EncR s w l W) (hb : Bd w.heap.size (w.heap.size + 2) l' W') (hc : Chg (fun k => k = w.heap.size ∨ w.heap.size + 2 ≤ k) W W') : EncR s w l' W' :=
  ⟨hb, hc.below h.low (fun k hk => by omega) (by have := h.sz; omega), fun j hj => hc.cellAt (h.row j hj) (by simp), Nat.le_trans h.sz hc.size⟩
theorem n43 : (43 : Int) = ((43 : UInt8).toNat : Int) := rfl
set_option maxHeartbeats 4000000 in
theorem encode_any (s : ByteArray) (w : World) (hs : s.size ≤ 100000000) :
    Calls Tryz.prog 74 #[.string s] w fun e w' => e = .returned (.string ⟨(Tx.enc s.data.toList).toArray⟩) ∧ Below w.heap.size w w' := by
  have hds : s.data.toList.length = s.size := by simp
  have kb := fun W => Lib.run_convert_string_bytes (P := Tryz.prog) W 9 40 5 s Tryz.underlying9 Tryz.underlying40 Tryz.underlying5
  go_enter Tryz.func74, Tryz.ntmps74
  go_wp2
  have HR : Aside (EncR s w [] (Lib.bytesWorld (w.alloc (.cells #[.pointer none, .slice none 0 0] 94)) 5 s)) := ⟨⟨Bd.new (by omega) ((Blk.new _ _).bytes _ s), (((Below.refl _ w).alloc (Nat.le_refl _) _)).trans ⟨rfl, rfl, rfl, by rw [Lib.bytesWorld_size]; omega, fun k hk => Lib.bytesWorld_at_old _ _ s k (by simp; omega)⟩, fun j hj => by simpa using Lib.bytesWorld_cell (w.alloc (.cells #[.pointer none, .slice none 0 0] 94)) 5 s j hj, by rw [Lib.bytesWorld_size]; simp⟩⟩
  generalize Lib.bytesWorld (w.alloc (.cells #[.pointer none, .slice none 0 0] 94)) 5 s = W at HR ⊢
  go_loopw [9] (fun i wr => ∃ k : Nat, k ≤ s.size ∧ i = .int .i64 k ∧ EncR s w (Tx.enc (s.data.toList.take k)) wr) (fun i _ => s.size - (intOf i).toNat)
  case atStart => exact ⟨0, by omega, rfl, HR.out⟩
  case round =>
    clear HR
    obtain ⟨k, hk, rfl, hr⟩ := hrel
    have R := Aside.mk hr
    clear hr
    by_cases hlt : k < s.size
    · have hck := R.out.row k hlt
      have hg : s.data.toList.getD k 0 = s.data.toList[k] := by rw [List.getD_eq_getElem?_getD, List.getElem?_eq_getElem (by simp; omega)]; rfl
      have HT := Lib.hid (Txt.take_snoc s.data.toList k (by simp; omega))
      rw [hg] at hck
      generalize s.data.toList[k] = c at hck HT
      clear hg
      have hcr := c.toNat_lt
      have HLn := Aside.mk (show (Tx.enc (s.data.toList.take k)).length ≤ 300000000 from by have := Tx.enc_len (s.data.toList.take k); simp at this; omega)
      cases hp : Txt.plain c with
      | true =>
        have HE := Lib.hid (show Tx.enc (s.data.toList.take (k + 1)) = Tx.enc (s.data.toList.take k) ++ [c] by rw [HT.out, Tx.enc_snoc]; simp [Tx.enc1, hp])
        have hpl := fun W => plain_any c W
        rw [hp] at hpl
        generalize Tx.enc (s.data.toList.take k) = l at R HLn HE
        have HL0 := Aside.mk (show l.length ≤ 1000000000 from Nat.le_trans HLn.out (by decide))
        go_wp2_with (first | (go_at_call 107; (with_reducible refine (hpl _).mono ?_); rintro e w' ⟨rfl, hw⟩; have hw' := hw.symm; clear hw; subst hw') | (go_at_call 68; (with_reducible refine (writeByte_any _ _ l c _ R.out.bld HL0.out R.out.sz).mono ?_); rintro e w2 ⟨rfl, hb, hch⟩; replace R := Aside.mk (R.out.wrote hb hch); clear hb hch))
        go_roundw
        case rel => exact ⟨k + 1, by omega, by go_num, by rw [HE.out]; exact R.out⟩
        case measure => simp [intOf]; omega
      | false =>
        have HE := Lib.hid (show Tx.enc (s.data.toList.take (k + 1)) = Tx.enc (s.data.toList.take k) ++ [43] ++ [Tx.hex (c.toNat / 16)] ++ [Tx.hex (c.toNat % 16)] by rw [HT.out, Tx.enc_snoc]; simp [Tx.enc1, hp])
        have hpl := fun W => plain_any c W
        rw [hp] at hpl
        generalize Tx.enc (s.data.toList.take k) = l at R HLn HE
        have HL0 := Aside.mk (show l.length ≤ 1000000000 from Nat.le_trans HLn.out (by decide))
        have HL1 := Aside.mk (show (l ++ [43]).length ≤ 1000000000 from by have := HLn.out; simp; omega)
        have HL2 := Aside.mk (show ∀ x : UInt8, (l ++ [43] ++ [x]).length ≤ 1000000000 from fun x => by have := HLn.out; simp; omega)
        clear HLn
        go_wp2_with (first | (go_at_call 107; (with_reducible refine (hpl _).mono ?_); rintro e w' ⟨rfl, hw⟩; have hw' := hw.symm; clear hw; subst hw') | (go_at_call 68; (with_reducible refine (writeByte_n _ _ l _ _ R.out.bld HL0.out R.out.sz _ n43).mono ?_); rintro e w2 ⟨rfl, hb, hch⟩; replace R := Aside.mk (R.out.wrote hb hch); clear hb hch) | (go_at_call 68; (with_reducible refine (writeByte_any _ _ (l ++ [43]) _ _ R.out.bld HL1.out R.out.sz).mono ?_); rintro e w2 ⟨rfl, hb, hch⟩; replace R := Aside.mk (R.out.wrote hb hch); clear hb hch) | (go_at_call 68; (with_reducible refine (writeByte_any _ _ _ _ _ R.out.bld (HL2.out _) R.out.sz).mono ?_); rintro e w2 ⟨rfl, hb, hch⟩; replace R := Aside.mk (R.out.wrote hb hch); clear hb hch))
        go_roundw
        case rel =>
          refine ⟨k + 1, by omega, by go_num, ?_⟩
          rw [HE.out, ← Tx.hex_at (c.toNat / 16) (by omega), ← Tx.hex_at (c.toNat % 16) (by omega)]
          exact R.out
        case measure => simp [intOf]; omega
    · have hke : k = s.size := by omega
      subst hke
      go_wp2_with (go_at_call 69; (with_reducible refine (string_any _ _ _ _ _ R.out.bld (Nat.le_refl _)).mono ?_); rintro e w2 ⟨rfl, hb⟩)
      go_ret
      refine ⟨ret_str ?_, R.out.low.trans hb⟩
      rw [List.take_of_length_le (by omega)]
end Go.Proofs.YtllhbcpbihhdnaaGreatDoor
end
section
set_option linter.unusedVariables false
set_option linter.unusedSimpArgs false
namespace Tx
def digits : List UInt8 := [48, 49, 50, 51, 52, 53, 54, 55, 56, 57, 65, 66, 67, 68, 69, 70]
/-- A digit's number, or -1. -/
def unhex (c : UInt8) : Int := Go.Lib.indexByte digits c
theorem index_bd (l : List UInt8) (c : UInt8) : -1 ≤ Go.Lib.indexByte l c ∧ Go.Lib.indexByte l c < l.length := by
  induction l with
  | nil => simp [Go.Lib.indexByte]
  | cons b l ih =>
    simp only [Go.Lib.indexByte, List.length_cons]
    split
    · omega
    · split
      · omega
      · omega
theorem unhex_lt (c : UInt8) : -1 ≤ unhex c ∧ unhex c ≤ 15 := by
  have := index_bd digits c
  have h : digits.length = 16 := rfl
  unfold unhex
  omega
def dec : List UInt8 → Option (List UInt8)
  | [] => some []
  | c :: r => if Txt.plain c then (dec r).map (c :: ·) else if c = 43 then (match r with
    | a :: b :: r' => if 0 ≤ unhex a ∧ 0 ≤ unhex b then (dec r').map (UInt8.ofNat (16 * (unhex a).toNat + (unhex b).toNat) :: ·) else none
    | _ => none) else none
theorem dec_cons (c : UInt8) (r : List UInt8) : dec (c :: r) = if Txt.plain c then (dec r).map (c :: ·) else if c = 43 then (match r with
    | a :: b :: r' => if 0 ≤ unhex a ∧ 0 ≤ unhex b then (dec r').map (UInt8.ofNat (16 * (unhex a).toNat + (unhex b).toNat) :: ·) else none
    | _ => none) else none := by rw [dec.eq_def]
end Tx
namespace Go.Proofs.YtllhbcpbihhdnaaGreatDoor
open Go.RowKit
set_option maxRecDepth 100000
/-- In Decode: what is left of the text; what the builder holds; is it bad? -/
structure DcS (w : World) (rest : ByteArray) (out : List UInt8) (bad : Bool) (W : World) : Prop where
  low : Below w.heap.size w W
  txt : Blk W w.heap.size #[.string rest] 9
  bld : Bd (w.heap.size + 1) (w.heap.size + 3) out W
  bad : Blk W (w.heap.size + 2) #[.bool bad] 4
theorem DcS.size {w : World} {rest : ByteArray} {out : List UInt8} {bad : Bool} {W : World} (h : DcS w rest out bad W) : w.heap.size + 3 ≤ W.heap.size := by have := h.bad.lt; omega
theorem Bd.setOther {b R : Nat} {l : List UInt8} {w : World} (h : Bd b R l w) {p : Addr} (h1 : p.block ≠ b) (h2 : p.block < R) (v : Value) : Bd b R l (w.setCell p v) := by
  obtain ⟨q, x, hq, hk, ho⟩ := h.ex
  refine ⟨h.lt, q, x, hq, hk.setOther _ (fun e => h1 e.symm), ho.kept (row := some p.block) ⟨rfl, rfl, rfl, by simp [World.setCell], fun k _ hk => Below.heap_setCell _ _ _ _ (fun e => hk (by simp [e]))⟩ (Or.inr (fun e_ => by have := (World.ownsRow.lt ho _ e_).1; omega))⟩
theorem DcS.setT {w : World} {rest : ByteArray} {out : List UInt8} {bad : Bool} {W : World} (h : DcS w rest out bad W) (r : ByteArray) : DcS w r out bad (W.setCell ⟨w.heap.size, 0, none⟩ (.string r)) :=
  ⟨h.low.setCell (Nat.le_refl _) _, by simpa using h.txt.set 0 (.string r), h.bld.setOther (by simp) (by simp) _, h.bad.setOther _ (by simp)⟩
theorem DcS.setB {w : World} {rest : ByteArray} {out : List UInt8} {bad : Bool} {W : World} (h : DcS w rest out bad W) (b : Bool) : DcS w rest out b (W.setCell ⟨w.heap.size + 2, 0, none⟩ (.bool b)) :=
  ⟨h.low.setCell (by simp) _, h.txt.setOther _ (by simp), h.bld.setOther (by simp) (by simp) _, by simpa using h.bad.set 0 (.bool b)⟩
theorem DcS.wrote {w : World} {rest : ByteArray} {out out' : List UInt8} {bad : Bool} {W W' : World} (h : DcS w rest out bad W) (hb : Bd (w.heap.size + 1) (w.heap.size + 3) out' W') (hc : Chg (fun k => k = w.heap.size + 1 ∨ w.heap.size + 3 ≤ k) W W') : DcS w rest out' bad W' :=
  ⟨hc.below h.low (fun k hk => by omega) (by have := h.size; omega), h.txt.chg hc (by omega), hb, h.bad.chg hc (by omega)⟩
def dcLeft (b : Nat) (W : World) : Nat := match W.cell? ⟨b, 0, none⟩ with
  | some (.string s) => s.size
  | _ => 0
theorem DcS.left {w : World} {rest : ByteArray} {out : List UInt8} {bad : Bool} {W : World} (h : DcS w rest out bad W) : dcLeft w.heap.size W = rest.size := by unfold dcLeft; rw [h.txt.cell 0 (.string rest) rfl]
set_option maxHeartbeats 4000000 in
theorem digit_nil {w : World} {rest : ByteArray} {out : List UInt8} {bad : Bool} {W : World} (h : DcS w rest out bad W) (hr : rest.data.toList = []) :
    Calls Tryz.prog 120 #[.pointer (some ⟨w.heap.size, 0, none⟩), .pointer (some ⟨w.heap.size + 2, 0, none⟩)] W fun e w' => e = .returned (.int .u8 0) ∧ DcS w rest out true w' := by
  have z0 := h.txt.cell 0 _ rfl
  have z1 := h.bad.cell 0 _ rfl
  have y1 := h.bad.free 0
  have he : rest.toList = [] := by rw [Lib.toList_data, hr]
  have H := Aside.mk h
  clear h
  go_enter Tryz.func120, Tryz.ntmps120
  go_wp2
  go_ret
  exact ⟨rfl, H.out.setB true⟩
set_option maxHeartbeats 4000000 in
theorem digit_cons {w : World} {rest r : ByteArray} {out : List UInt8} {bad : Bool} {W : World} (h : DcS w rest out bad W) (c : UInt8) (hr : rest.data.toList = c :: r.data.toList) (hs : rest.size ≤ 1000000000) (n : UInt8) (hn : (n.toNat : Int) = max (Tx.unhex c) 0) :
    Calls Tryz.prog 120 #[.pointer (some ⟨w.heap.size, 0, none⟩), .pointer (some ⟨w.heap.size + 2, 0, none⟩)] W fun e w' => e = .returned (.int .u8 n.toNat) ∧ DcS w r out (bad || decide (Tx.unhex c < 0)) w' := by
  have z0 := h.txt.cell 0 _ rfl
  have z1 := h.bad.cell 0 _ rfl
  have y0 := h.txt.free 0
  have y1 := h.bad.free 0
  have hin := fun W => Tryz.strings_IndexByte ⟨#[48, 49, 50, 51, 52, 53, 54, 55, 56, 57, 65, 66, 67, 68, 69, 70]⟩ (c.toNat : Int) W
  have hc0 : (c.toNat : Int).toNat.toUInt8 = c := by simp
  rw [hc0] at hin
  have hu := Tx.unhex_lt c
  have hu1 : Lib.indexByte (⟨#[48, 49, 50, 51, 52, 53, 54, 55, 56, 57, 65, 66, 67, 68, 69, 70]⟩ : ByteArray).data.toList c = Tx.unhex c := rfl
  rw [hu1] at hin
  generalize Tx.unhex c = x at hin hu hn ⊢
  clear hu1 hc0
  have hsz : 1 ≤ rest.size := by have : rest.data.toList.length = rest.size := by simp
                                 rw [hr] at this; simp at this; omega
  have hne : ((rest.toList == []) = false) := by rw [Lib.toList_data, hr]; rfl
  have hg : rest[0]'(by omega) = c := by
    have : rest.data.toList[0]? = some c := by rw [hr]; rfl
    rw [Array.getElem?_toList] at this
    have h2 := Array.getElem?_eq_getElem (xs := rest.data) (i := 0) (by exact hsz)
    rw [h2] at this
    exact Option.some.inj this
  have hd : rest.extract 1 rest.size = r := by
    apply ByteArray.ext
    apply Array.ext'
    have hl : rest.data.toList.length = rest.size := by simp
    rw [hr] at hl
    simp at hl
    simp [hr]
    exact List.take_of_length_le (by simp; omega)
  have H := Aside.mk h
  clear h
  have hn2 := Lib.hid hn
  clear hn
  cases bad with
  | true =>
    go_enter Tryz.func120, Tryz.ntmps120
    go_wp2_with ((go_at_call 86; (with_reducible refine (hin _).mono ?_); rintro e w' ⟨rfl, hw⟩; have hw' := hw.symm; clear hw; subst hw'))
    go_ret
    exact ⟨ret_int hn2.out.symm, by simpa using (H.out.setB true).setT r⟩
  | false =>
    go_enter Tryz.func120, Tryz.ntmps120
    go_wp2_with ((go_at_call 86; (with_reducible refine (hin _).mono ?_); rintro e w' ⟨rfl, hw⟩; have hw' := hw.symm; clear hw; subst hw'))
    go_ret
    exact ⟨ret_int hn2.out.symm, by simpa using (H.out.setB (decide (x < 0))).setT r⟩
end Go.Proofs.YtllhbcpbihhdnaaGreatDoor
end
section
set_option linter.unusedVariables false
set_option linter.unusedSimpArgs false
namespace Go.Proofs.YtllhbcpbihhdnaaGreatDoor
open Go.RowKit
set_option maxRecDepth 100000
set_option maxHeartbeats 2000000 in
theorem number_any (s : ByteArray) (w : World) (hs : s.size ≤ 140737488351232) :
    Calls Tryz.prog 44 #[.string s] w fun e w' => e = .returned (.tuple #[.int .i64 (Txt.number s.data.toList).1, .int .i64 (Txt.number s.data.toList).2]) ∧ Below w.heap.size w w' := by
  have hds : s.data.toList.length = s.size := by simp
  have kb := fun W => Lib.run_convert_string_bytes (P := Tryz.prog) W 9 40 5 s Tryz.underlying9 Tryz.underlying40 Tryz.underlying5
  go_enter Tryz.func44, Tryz.ntmps44
  go_wp2
  go_loopw [4, 10] (fun n i wr => ∃ k : Nat, k ≤ s.size ∧ i = .int .i64 k ∧ n = .int .i64 (Txt.dec (s.data.toList.take k)) ∧ Aside ((∀ j, j < s.size → wr.cell? ⟨w.heap.size, j, none⟩ = some (.int .u8 (s.data.toList.getD j 0).toNat)) ∧ Below w.heap.size w wr ∧ (s.data.toList.take k).all Txt.digit = true ∧ (9 < s.size → k = 0)))
    (fun _ i _ => s.size - (intOf i).toNat)
  case atStart =>
    refine ⟨0, by omega, rfl, rfl, ⟨fun j hj => Lib.bytesWorld_cell _ _ _ _ hj, ?_, by simp, fun _ => rfl⟩⟩
    exact ((Below.refl _ _ : Below w.heap.size w w)).trans ⟨rfl, rfl, rfl, by rw [Lib.bytesWorld_size]; omega, fun k hk => Lib.bytesWorld_at_old w _ s k hk⟩
  case round =>
    obtain ⟨k, hk, rfl, rfl, HR⟩ := hrel
    by_cases hlt : k < s.size
    · have hc := HR.out.1 k hlt
      have hg : s.data.toList.getD k 0 = s.data.toList[k] := by rw [List.getD_eq_getElem?_getD, List.getElem?_eq_getElem (by simp; omega)]; rfl
      have HT := Lib.hid (Txt.take_snoc s.data.toList k (by simp; omega))
      rw [hg] at hc
      generalize hcv : s.data.toList[k] = c at hc HT
      have hcr := c.toNat_lt
      have HV := Lib.hid hcv
      clear hcv hg
      by_cases h9 : 9 < s.size
      · have HN : Hid (Txt.number s.data.toList = (0, 2)) := Lib.hid (by unfold Txt.number; rw [if_neg (by omega)])
        have h9b : decide (9 < s.size) = true := by simpa using h9
        go_wp2
        all_goals
          go_ret2
          rw [HN.out]
          exact ⟨rfl, HR.out.2.1⟩
      · by_cases hd : Txt.digit c = true
        · have hd' := hd
          simp only [Txt.digit, decide_eq_true_eq] at hd'
          obtain ⟨d1, d2⟩ := hd'
          have hb := Txt.dec_digits s.data.toList k (by omega) HR.out.2.2.1
          have hp := Txt.pow9 k (by omega)
          have b1 := hb.1
          have b2 : Txt.dec (s.data.toList.take k) ≤ 1000000000 := by omega
          have h9b : decide (9 < s.size) = false := by simpa using h9
          have HD := Lib.hid hd
          clear hd hb hp
          go_wp2
          all_goals
            go_roundw
            case measure => simp [intOf]; omega
            case rel =>
              refine ⟨k + 1, by omega, by go_num, by rw [HT.out, Txt.dec_snoc], ⟨HR.out.1, HR.out.2.1, ?_, fun h => absurd h h9⟩⟩
              rw [HT.out, List.all_append, HR.out.2.2.1]
              simp [HD.out]
        · have HN : Hid (Txt.number s.data.toList = (0, 2)) := Lib.hid (by
            unfold Txt.number
            rw [if_neg]
            rintro ⟨_, _, h3⟩
            have := List.all_eq_true.1 h3 c (by rw [← HV.out]; exact List.getElem_mem _)
            exact hd this)
          have hn : ¬ (48 ≤ c.toNat ∧ c.toNat ≤ 57) := by simpa [Txt.digit] using hd
          have h9b : decide (9 < s.size) = false := by simpa using h9
          have HX := Lib.hid hn
          clear hd hn
          by_cases l48 : c.toNat < 48
          · go_wp2
            all_goals
              go_ret2
              rw [HN.out]
              exact ⟨rfl, HR.out.2.1⟩
          · have g57 : 57 < c.toNat := by have := HX.out; omega
            go_wp2
            all_goals
              go_ret2
              rw [HN.out]
              exact ⟨rfl, HR.out.2.1⟩
    · have hke : k = s.size := by omega
      subst hke
      by_cases h0 : s.size = 0
      · have hl : s.data.toList = [] := List.eq_nil_of_length_eq_zero (by omega)
        have hb : s = ⟨#[]⟩ := by
          cases s with
          | mk d => congr 1; exact Array.toList_inj.1 (by simpa using hl)
        subst hb
        go_wp2
        all_goals
          go_ret2
          exact ⟨rfl, HR.out.2.1⟩
      · have hl : ¬ (s.data.toList = []) := fun h => h0 (by rw [← hds, h]; rfl)
        have HN : Hid (Txt.number s.data.toList = (Txt.dec (s.data.toList.take s.size), 0)) := Lib.hid (by
          have h9 : ¬ 9 < s.size := fun h => h0 (HR.out.2.2.2 h)
          have ht : s.data.toList.take s.size = s.data.toList := List.take_of_length_le (by omega)
          have ha := HR.out.2.2.1
          rw [ht] at ha ⊢
          unfold Txt.number
          rw [if_pos ⟨hl, by omega, ha⟩])
        have hl2 : ¬ (s.toList = []) := by rw [Go.ByteArray.toList_eq]; exact hl
        have he : s.toList.isEmpty = false := by simpa using hl2
        have he2 : (s.toList == []) = false := by simpa using hl2
        clear hl
        go_wp2
        all_goals
          go_ret2
          rw [HN.out]
          exact ⟨rfl, HR.out.2.1⟩
end Go.Proofs.YtllhbcpbihhdnaaGreatDoor
end
section
set_option linter.unusedVariables false
set_option linter.unusedSimpArgs false
namespace Go.Proofs.YtllhbcpbihhdnaaGreatDoor
open Go.RowKit
set_option maxRecDepth 100000
namespace Pm
/-- Is a number 0 where it isn't said? -/
def said (has : Bool) (n : Int) : Bool := has || (n == 0)
/-- Is it in its range where it is said? -/
def inn (has : Bool) (n lo hi : Int) : Bool := !has || (decide (lo ≤ n) && decide (n ≤ hi))
def empty (s : ByteArray) : Bool := s.toList == []
/-- Is it empty, or one of these? -/
def among (s : ByteArray) (l : List ByteArray) : Bool := empty s || Lib.containsS l s
end Pm
theorem said_any (has : Bool) (n : Int) (w : World) : Calls Tryz.prog 101 #[.bool has, .int .i64 n] w fun e w' => e = .returned (.bool (Pm.said has n)) ∧ w' = w := by
  cases has with
  | true =>
    go_enter Tryz.func101, Tryz.ntmps101
    go_wp2
    go_ret
    exact ⟨rfl, rfl⟩
  | false =>
    cases h : (n == 0) with
    | true =>
      go_enter Tryz.func101, Tryz.ntmps101
      go_wp2
      go_ret
      exact ⟨ret_bool (by simp [Pm.said, h]), rfl⟩
    | false =>
      go_enter Tryz.func101, Tryz.ntmps101
      go_wp2
      go_ret
      exact ⟨ret_bool (by simp [Pm.said, h]), rfl⟩
theorem inn_any (has : Bool) (n lo hi : Int) (w : World) : Calls Tryz.prog 103 #[.bool has, .int .i64 n, .int .i64 lo, .int .i64 hi] w fun e w' => e = .returned (.bool (Pm.inn has n lo hi)) ∧ w' = w := by
  cases has with
  | false =>
    go_enter Tryz.func103, Tryz.ntmps103
    go_wp2
    go_ret
    exact ⟨rfl, rfl⟩
  | true =>
    by_cases h1 : lo ≤ n
    · by_cases h2 : n ≤ hi
      · go_enter Tryz.func103, Tryz.ntmps103
        go_wp2
        go_ret
        exact ⟨ret_bool (by unfold Pm.inn; rw [decide_eq_true h1, decide_eq_true h2]; rfl), rfl⟩
      · go_enter Tryz.func103, Tryz.ntmps103
        go_wp2
        go_ret
        exact ⟨ret_bool (by unfold Pm.inn; rw [decide_eq_true h1, decide_eq_false (by omega : ¬ n ≤ hi)]; rfl), rfl⟩
    · go_enter Tryz.func103, Tryz.ntmps103
      go_wp2
      go_ret
      exact ⟨ret_bool (by unfold Pm.inn; rw [decide_eq_false (by omega : ¬ lo ≤ n)]; rfl), rfl⟩
theorem among_any (s : ByteArray) (b n : Nat) (zs : List ByteArray) (hz : zs.length = n) (hn : n ≤ 1000) (w : World) (hc : ∀ j, j < n → w.cell? ⟨b, j, none⟩ = some (.string (zs.getD j ByteArray.empty))) :
    Calls Tryz.prog 102 #[.string s, .slice (some ⟨b, 0, none⟩) n n] w fun e w' => e = .returned (.bool (Pm.among s zs)) ∧ w' = w := by
  subst hz
  have hcon := Tryz.slices_Contains_string b 0 zs.length zs.length zs s w (Nat.le_refl _) (by omega) (fun j hj => by rw [Nat.zero_add]; exact hc j hj)
  rw [List.take_of_length_le (Nat.le_refl _)] at hcon
  cases h : (s.toList == []) with
  | true =>
    go_enter Tryz.func102, Tryz.ntmps102
    go_wp2
    go_ret
    exact ⟨ret_bool (by simp [Pm.among, Pm.empty, h]), rfl⟩
  | false =>
    go_enter Tryz.func102, Tryz.ntmps102
    go_wp2_with ((go_at_call 25; (with_reducible refine hcon.mono ?_); rintro e w' ⟨rfl, hw⟩; have hw' := hw.symm; clear hw; subst hw'))
    go_ret
    exact ⟨ret_bool (by simp [Pm.among, Pm.empty, h]), rfl⟩
theorem among_new (s : ByteArray) (zs : List ByteArray) (cs : Array Value) (hcs : cs = (zs.map Value.string).toArray) (n : Nat) (hz : zs.length = n) (hn : n ≤ 1000) (W : World) (bb : Nat) (hb : W.heap.size = bb) (r : Bool) (hr : Pm.among s zs = r) :
    Calls Tryz.prog 102 #[.string s, .slice (some ⟨bb, 0, none⟩) n n] (W.alloc (.cells cs 9)) fun e w' => e = .returned (.bool r) ∧ w' = W.alloc (.cells cs 9) := by
  subst hcs hb hz hr
  refine among_any s W.heap.size zs.length zs rfl hn _ fun j hj => ?_
  have h0 : (W.alloc (.cells (zs.map Value.string).toArray 9)).heap[W.heap.size]? = some (.cells (zs.map Value.string).toArray 9 (0, 0)) := heap_alloc_new W _
  unfold World.cell?
  simp only [h0]
  simp [hj, List.getD_eq_getElem?_getD]
theorem among_fresh (s : ByteArray) (zs : List ByteArray) (cs : Array Value) (hcs : cs = (zs.map Value.string).toArray) (n : Nat) (hz : zs.length = n) (hn : n ≤ 1000) (r : Bool) (hr : Pm.among s zs = r) (W : World) :
    Calls Tryz.prog 102 #[.string s, .slice (some ⟨W.heap.size, 0, none⟩) n n] (W.alloc (.cells cs 9)) fun e w' => e = .returned (.bool r) ∧ Below W.heap.size W w' :=
  (among_new s zs cs hcs n hz hn W _ rfl r hr).mono fun _ _ ⟨h1, h2⟩ => ⟨h1, h2 ▸ (Below.refl _ _).alloc (Nat.le_refl _) _⟩
end Go.Proofs.YtllhbcpbihhdnaaGreatDoor
end
section
set_option linter.unusedVariables false
set_option linter.unusedSimpArgs false
namespace Go.Proofs.YtllhbcpbihhdnaaGreatDoor
open Go.RowKit
set_option maxRecDepth 100000
theorem num_range (l : List UInt8) : 0 ≤ (Txt.number l).1 ∧ (Txt.number l).1 ≤ 999999999 := by
  unfold Txt.number
  split
  · rename_i h
    have := Txt.dec_digits l l.length (Nat.le_refl _) (by rw [List.take_of_length_le (Nat.le_refl _)]; exact h.2.2)
    rw [List.take_of_length_le (Nat.le_refl _)] at this
    have := Txt.pow9 l.length h.2.1
    simp only
    omega
  · simp
namespace Pm
/-- A number that may have a - ahead. -/
def signed (l : List UInt8) : Int × Int := (if Lib.hasPrefix l [45] = true then -(Txt.number (Lib.trimPrefix l [45])).1 else (Txt.number (Lib.trimPrefix l [45])).1, (Txt.number (Lib.trimPrefix l [45])).2)
/-- A number, in a range. -/
def within (n e lo hi : Int) : Int × Int := if e ≠ 0 then (0, e) else if n < lo ∨ hi < n then (0, 1) else (n, 0)
/-- One of these, in capital letters. -/
def name (s : ByteArray) (zs : List ByteArray) : ByteArray × Int := if Lib.containsS zs ⟨(Txt.upper s.data.toList).toArray⟩ = true then (⟨(Txt.upper s.data.toList).toArray⟩, 0) else (⟨#[]⟩, 2)
end Pm
theorem trim_len (l p : List UInt8) : (Lib.trimPrefix l p).length ≤ l.length := by
  unfold Lib.trimPrefix
  split
  · rw [List.length_drop]; omega
  · exact Nat.le_refl _
set_option maxHeartbeats 2000000 in
theorem signed_any (s : ByteArray) (w : World) (hs : s.size ≤ 1000000000) :
    Calls Tryz.prog 53 #[.string s] w fun e w' => e = .returned (.tuple #[.int .i64 (Pm.signed s.data.toList).1, .int .i64 (Pm.signed s.data.toList).2]) ∧ Below w.heap.size w w' := by
  have hl : s.data.toList.length = s.size := by simp
  have htl := trim_len s.data.toList [45]
  have hcut := fun W => Tryz.strings_CutPrefix s ⟨#[45]⟩ W
  rw [show (⟨#[45]⟩ : ByteArray).data.toList = [45] from rfl] at hcut
  have hnum := fun W => number_any ⟨(Lib.trimPrefix s.data.toList [45]).toArray⟩ W (by show (Lib.trimPrefix s.data.toList [45]).toArray.size ≤ _; simp; omega)
  rw [show (⟨(Lib.trimPrefix s.data.toList [45]).toArray⟩ : ByteArray).data.toList = Lib.trimPrefix s.data.toList [45] from rfl] at hnum
  have hrg := num_range (Lib.trimPrefix s.data.toList [45])
  obtain ⟨r, hr⟩ : ∃ r, Pm.signed s.data.toList = r := ⟨_, rfl⟩
  rw [hr]
  unfold Pm.signed at hr
  clear htl
  generalize Lib.trimPrefix s.data.toList [45] = t at *
  obtain ⟨n, e, hn⟩ : ∃ n e, Txt.number t = (n, e) := ⟨_, _, rfl⟩
  rw [hn] at hnum hrg hr
  simp only at hnum hrg hr
  cases hm : Lib.hasPrefix s.data.toList [45] with
  | true =>
    rw [hm] at hcut hr
    rw [if_pos rfl] at hr
    go_enter Tryz.func53, Tryz.ntmps53
    go_wp2_with (first | (go_at_call 31; (with_reducible refine (hcut _).mono ?_); rintro e w' ⟨rfl, hw⟩; have hw' := hw.symm; clear hw; subst hw') | (go_at_call 44; (with_reducible refine (hnum _).mono ?_); rintro e w1 ⟨rfl, hb⟩))
    go_ret2
    exact ⟨by rw [← hr]; rfl, hb⟩
  | false =>
    rw [hm] at hcut hr
    rw [if_neg (by simp)] at hr
    go_enter Tryz.func53, Tryz.ntmps53
    go_wp2_with (first | (go_at_call 31; (with_reducible refine (hcut _).mono ?_); rintro e w' ⟨rfl, hw⟩; have hw' := hw.symm; clear hw; subst hw') | (go_at_call 44; (with_reducible refine (hnum _).mono ?_); rintro e w1 ⟨rfl, hb⟩))
    go_ret2
    exact ⟨by rw [← hr]; rfl, hb⟩
theorem within_any (n e lo hi : Int) (w : World) : Calls Tryz.prog 48 #[.int .i64 n, .int .i64 e, .int .i64 lo, .int .i64 hi] w fun x w' => x = .returned (.tuple #[.int .i64 (Pm.within n e lo hi).1, .int .i64 (Pm.within n e lo hi).2]) ∧ w' = w := by
  by_cases h : e = 0
  · subst h
    by_cases h1 : n < lo
    · have hr : Pm.within n 0 lo hi = (0, 1) := by unfold Pm.within; rw [if_neg (by simp), if_pos (.inl h1)]
      rw [hr]
      go_enter Tryz.func48, Tryz.ntmps48
      go_wp2
      go_ret2
      exact ⟨rfl, rfl⟩
    · by_cases h2 : hi < n
      · have hr : Pm.within n 0 lo hi = (0, 1) := by unfold Pm.within; rw [if_neg (by simp), if_pos (.inr h2)]
        rw [hr]
        go_enter Tryz.func48, Tryz.ntmps48
        go_wp2
        go_ret2
        exact ⟨rfl, rfl⟩
      · have hr : Pm.within n 0 lo hi = (n, 0) := by unfold Pm.within; rw [if_neg (by simp), if_neg (by omega)]
        rw [hr]
        go_enter Tryz.func48, Tryz.ntmps48
        go_wp2
        go_ret2
        exact ⟨rfl, rfl⟩
  · have hr : Pm.within n e lo hi = (0, e) := by unfold Pm.within; rw [if_pos h]
    have h1 : (e == 0) = false := by simpa using h
    have h2 : (e != 0) = true := by simpa using h
    rw [hr]
    go_enter Tryz.func48, Tryz.ntmps48
    go_wp2
    go_ret2
    exact ⟨rfl, rfl⟩
set_option maxHeartbeats 2000000 in
theorem name_any (s : ByteArray) (b n : Nat) (zs : List ByteArray) (hz : zs.length = n) (hn : n ≤ 1000) (hs : s.size ≤ 1000000000) (w : World) (hc : ∀ j, j < n → w.cell? ⟨b, j, none⟩ = some (.string (zs.getD j ByteArray.empty))) :
    Calls Tryz.prog 41 #[.string s, .slice (some ⟨b, 0, none⟩) n n] w fun e w' => e = .returned (.tuple #[.string (Pm.name s zs).1, .int .i64 (Pm.name s zs).2]) ∧ Below w.heap.size w w' := by
  subst hz
  have hup := fun W => param_upper s W (by omega)
  obtain ⟨u, hu⟩ : ∃ u : ByteArray, (⟨(Txt.upper s.data.toList).toArray⟩ : ByteArray) = u := ⟨_, rfl⟩
  obtain ⟨r, hr⟩ : ∃ r, Pm.name s zs = r := ⟨_, rfl⟩
  rw [hr]
  unfold Pm.name at hr
  rw [hu] at hup hr
  clear hu
  have HC := Aside.mk hc
  clear hc
  have hcon := fun (W : World) (hW : Below w.heap.size w W) => Tryz.slices_Contains_string b 0 zs.length zs.length zs u W (Nat.le_refl _) (by omega) (fun j hj => by rw [Nat.zero_add]; exact cell_next hW (HC.out j hj))
  rw [List.take_of_length_le (Nat.le_refl _)] at hcon
  cases hk : Lib.containsS zs u with
  | true =>
    rw [hk] at hcon hr
    rw [if_pos rfl] at hr
    go_enter Tryz.func41, Tryz.ntmps41
    go_wp2_with (first | (go_at_call 51; (with_reducible refine (hup _).mono ?_); rintro e w1 ⟨rfl, hb⟩) | (go_at_call 25; (with_reducible refine (hcon _ hb).mono ?_); rintro e w' ⟨rfl, hw⟩; have hw' := hw.symm; clear hw; subst hw'))
    go_ret2
    exact ⟨by rw [← hr]; rfl, hb⟩
  | false =>
    rw [hk] at hcon hr
    rw [if_neg (by simp)] at hr
    go_enter Tryz.func41, Tryz.ntmps41
    go_wp2_with (first | (go_at_call 51; (with_reducible refine (hup _).mono ?_); rintro e w1 ⟨rfl, hb⟩) | (go_at_call 25; (with_reducible refine (hcon _ hb).mono ?_); rintro e w' ⟨rfl, hw⟩; have hw' := hw.symm; clear hw; subst hw'))
    go_ret2
    exact ⟨by rw [← hr]; rfl, hb⟩
end Go.Proofs.YtllhbcpbihhdnaaGreatDoor
end
section
set_option linter.unusedVariables false
set_option linter.unusedSimpArgs false
namespace DtCal
/-- Is a year leap? (Go's remainder.) -/
def leap (y : Int) : Bool := (Int.tmod y 4 == 0) && ((Int.tmod y 100 != 0) || (Int.tmod y 400 == 0))
/-- A month's length, 0 out of range. -/
def len (y m : Int) : Int :=
  if m < 1 ∨ 12 < m then 0 else if m = 2 then (if leap y = true then 29 else 28) else if m = 4 ∨ m = 6 ∨ m = 9 ∨ m = 11 then 30 else 31
/-- Days of all years ahead of one, since the year 0. -/
def dby (y : Int) : Int := 365 * (y - 1) + (y - 1) / 4 - (y - 1) / 100 + (y - 1) / 400
def right (y m d : Int) : Bool := decide (1970 ≤ y ∧ y ≤ 9999 ∧ 1 ≤ m ∧ 1 ≤ d ∧ d ≤ len y m)
/-- Days of the months ahead of one. -/
def cum (y : Int) : Nat → Int
  | 0 => 0
  | m + 1 => cum y m + len y (m + 1)
end DtCal
namespace DtCal
/-- The number of digits read one by one. -/
def dec (l : List UInt8) : Int := l.foldl (fun n c => 10 * n + (c.toNat : Int) - 48) 0
def digit (c : UInt8) : Bool := 48 ≤ c.toNat && c.toNat ≤ 57
theorem dec_nil : dec [] = 0 := rfl
theorem dec_snoc (l : List UInt8) (c : UInt8) : dec (l ++ [c]) = 10 * dec l + (c.toNat : Int) - 48 := by unfold dec; rw [List.foldl_append]; rfl
theorem dec_bound (l : List UInt8) (h : l.length ≤ 4) : -60000 ≤ dec l ∧ dec l ≤ 240000 := by
  have b := fun c : UInt8 => c.toNat_lt
  match l, h with
  | [], _ => simp [dec]
  | [x], _ => have := b x; simp [dec]; omega
  | [x, y], _ => have := b x; have := b y; simp [dec]; omega
  | [x, y, z], _ => have := b x; have := b y; have := b z; simp [dec]; omega
  | [x, y, z, u], _ => have := b x; have := b y; have := b z; have := b u; simp [dec]; omega
/-- What the reader of a number leaves: the number, the text behind, is it wrong? -/
def num (s : List UInt8) (bad : Bool) (size : Nat) (behind : List UInt8) : Int × List UInt8 × Bool :=
  if s.length < size then (0, s, true)
  else (dec (s.take size), (if behind.isPrefixOf (s.drop size) then (s.drop size).drop behind.length else s.drop size),
    bad || (s.take size).any (fun c => !digit c) || !behind.isPrefixOf (s.drop size))
theorem take_snoc (l : List UInt8) (k : Nat) (h : k < l.length) : l.take (k + 1) = l.take k ++ [l[k]] := List.take_succ_eq_append_getElem h
end DtCal
namespace DtCal
/-- Behind the last number: a zone's sign and numbers; the text and the fault behind. -/
def zone (s : List UInt8) (bad : Bool) : Int × Int × Int × Bool :=
  let sign : Int := if [43].isPrefixOf s then -1 else if [45].isPrefixOf s then 1 else 0
  if sign = 0 then (0, 0, 0, bad || !(s == [90]))
  else
    let a := num (s.drop 1) bad 2 [58]
    let b := num a.2.1 a.2.2 2 []
    (sign, a.1, b.1, b.2.2 || !(b.2.1 == []))
/-- The shape of a text: its eight numbers, a sign, is it wrong? -/
def shape (s : List UInt8) : (Int × Int × Int) × (Int × Int × Int) × (Int × Int × Int × Bool) :=
  let a := num s false 4 [45]
  let b := num a.2.1 a.2.2 2 [45]
  let c := num b.2.1 b.2.2 2 [84]
  let h := num c.2.1 c.2.2 2 [58]
  let m := num h.2.1 h.2.2 2 [58]
  let x := num m.2.1 m.2.2 2 []
  ((a.1, b.1, c.1), (h.1, m.1, x.1), zone x.2.1 x.2.2)
def time (n : Int) (h m x : Int) (z : Int × Int × Int × Bool) : Int := n * 86400 + h * 3600 + m * 60 + x + z.1 * (z.2.1 * 3600 + z.2.2.1 * 60)
end DtCal
namespace DtCal
theorem len_bd (y m : Int) : 0 ≤ len y m ∧ len y m ≤ 31 := by unfold len; (repeat' split) <;> omega
theorem len_lo (y m : Int) (h1 : 1 ≤ m) (h2 : m ≤ 12) : 28 ≤ len y m := by unfold len; (repeat' split) <;> omega
theorem cum_bd (y : Int) (m : Nat) : 0 ≤ cum y m ∧ cum y m ≤ 31 * m := by
  induction m with
  | zero => simp [cum]
  | succ m ih => have := len_bd y (m + 1); simp only [cum]; omega
theorem dby_bd (y : Int) (h0 : 1 ≤ y) (h1 : y ≤ 10000) : 0 ≤ dby y ∧ dby y ≤ 3652425 := by unfold dby; omega
theorem dby_mono (a b : Int) (h0 : 1 ≤ a) (h : a ≤ b) : dby a ≤ dby b := by unfold dby; omega
theorem right_iff {y m d : Int} : right y m d = true ↔ 1970 ≤ y ∧ y ≤ 9999 ∧ 1 ≤ m ∧ 1 ≤ d ∧ d ≤ len y m := by simp [right]
theorem right_month {y m d : Int} (h : right y m d = true) : m ≤ 12 := by
  obtain ⟨_, _, h3, h4, h5⟩ := right_iff.1 h
  rcases Int.lt_or_le 12 m with h | h
  · rw [len, if_pos (.inr h)] at h5; omega
  · exact h
/-- The number of a date's day. -/
def days (y m d : Int) : Int × Int := if right y m d = true then (dby y - 719162 + cum y (m.toNat - 1) + d - 1, 0) else (0, 1)
end DtCal
namespace DtCal
def lp (y : Int) : Int := if leap y = true then 1 else 0
theorem leap_iff {y : Int} (h : 0 ≤ y) : leap y = true ↔ y % 4 = 0 ∧ (y % 100 ≠ 0 ∨ y % 400 = 0) := by
  unfold leap
  rw [Int.tmod_eq_emod_of_nonneg h, Int.tmod_eq_emod_of_nonneg h, Int.tmod_eq_emod_of_nonneg h]
  simp
theorem lp_01 (y : Int) : 0 ≤ lp y ∧ lp y ≤ 1 := by unfold lp; split <;> omega
theorem dby_succ (y : Int) (h : 1 ≤ y) : dby (y + 1) = dby y + 365 + lp y := by
  unfold dby lp
  by_cases hl : leap y = true
  · rw [if_pos hl]
    have := (leap_iff (by omega)).1 hl
    omega
  · rw [if_neg hl]
    have : ¬ (y % 4 = 0 ∧ (y % 100 ≠ 0 ∨ y % 400 = 0)) := fun h' => hl ((leap_iff (by omega)).2 h')
    omega
theorem len_2 (y : Int) : len y 2 = 28 + lp y := by
  unfold len lp
  rw [if_neg (by omega), if_pos rfl]
  split <;> rfl
theorem cum_all (y : Int) : cum y 0 = 0 ∧ cum y 1 = 31 ∧ cum y 2 = 59 + lp y ∧ cum y 3 = 90 + lp y ∧ cum y 4 = 120 + lp y ∧ cum y 5 = 151 + lp y ∧ cum y 6 = 181 + lp y ∧ cum y 7 = 212 + lp y ∧ cum y 8 = 243 + lp y ∧ cum y 9 = 273 + lp y ∧ cum y 10 = 304 + lp y ∧ cum y 11 = 334 + lp y ∧ cum y 12 = 365 + lp y := by
  have h2 := len_2 y
  have h1 : len y 1 = 31 := by simp [len]
  have h3 : len y 3 = 31 := by simp [len]
  have h4 : len y 4 = 30 := by simp [len]
  have h5 : len y 5 = 31 := by simp [len]
  have h6 : len y 6 = 30 := by simp [len]
  have h7 : len y 7 = 31 := by simp [len]
  have h8 : len y 8 = 31 := by simp [len]
  have h9 : len y 9 = 30 := by simp [len]
  have h10 : len y 10 = 31 := by simp [len]
  have h11 : len y 11 = 30 := by simp [len]
  have h12 : len y 12 = 31 := by simp [len]
  refine ⟨rfl, ?_, ?_, ?_, ?_, ?_, ?_, ?_, ?_, ?_, ?_, ?_, ?_⟩ <;> simp [cum, h1, h2, h3, h4, h5, h6, h7, h8, h9, h10, h11, h12] <;> omega
theorem cum_mono (y : Int) (a b : Nat) (h : a ≤ b) : cum y a ≤ cum y b := by
  induction b with
  | zero => obtain rfl : a = 0 := by omega
            omega
  | succ b ih =>
    rcases Nat.lt_or_ge a (b + 1) with h' | h'
    · have := ih (by omega); have := len_bd y (b + 1); simp only [cum]; omega
    · obtain rfl : a = b + 1 := by omega
      omega
theorem cum_le_year (y : Int) (m : Nat) (h : m ≤ 12) : cum y m ≤ 365 + lp y := by have := cum_mono y m 12 h; have := (cum_all y).2.2.2.2.2.2.2.2.2.2.2.2; omega
/-- The day's number within its year. -/
theorem in_year {y m d : Int} (h : right y m d = true) : 0 ≤ cum y (m.toNat - 1) + d - 1 ∧ cum y (m.toNat - 1) + d - 1 < 365 + lp y ∧ cum y (m.toNat - 1) + d ≤ cum y m.toNat := by
  obtain ⟨h1, h2, h3, h4, h5⟩ := right_iff.1 h
  have hm := right_month h
  have hb := (cum_bd y (m.toNat - 1)).1
  obtain ⟨k, rfl⟩ : ∃ k : Nat, m = k + 1 := ⟨m.toNat - 1, by omega⟩
  have e : ((k : Int) + 1).toNat = k + 1 := by omega
  rw [e] at hb ⊢
  have hs : cum y (k + 1) = cum y k + len y (k + 1) := rfl
  have hy := cum_le_year y (k + 1) (by omega)
  simp only [Nat.add_sub_cancel] at hb ⊢
  omega
theorem days_val {y m d : Int} (h : right y m d = true) : days y m d = (dby y - 719162 + cum y (m.toNat - 1) + d - 1, 0) := by rw [days, if_pos h]
theorem days_inj {y m d y' m' d' : Int} (h : right y m d = true) (h' : right y' m' d' = true) (e : (days y m d).1 = (days y' m' d').1) : y = y' ∧ m = m' ∧ d = d' := by
  rw [days_val h, days_val h'] at e
  simp only at e
  have a := in_year h
  have a' := in_year h'
  have r := right_iff.1 h
  have r' := right_iff.1 h'
  have hy : y = y' := by
    rcases Int.lt_trichotomy y y' with hlt | heq | hgt
    · have := dby_mono (y + 1) y' (by omega) (by omega)
      have := dby_succ y (by omega)
      omega
    · exact heq
    · have := dby_mono (y' + 1) y (by omega) (by omega)
      have := dby_succ y' (by omega)
      omega
  subst hy
  have hm : m = m' := by
    rcases Int.lt_trichotomy m m' with hlt | heq | hgt
    · have := cum_mono y m.toNat (m'.toNat - 1) (by omega)
      omega
    · exact heq
    · have := cum_mono y m'.toNat (m.toNat - 1) (by omega)
      omega
  subst hm
  exact ⟨rfl, rfl, by omega⟩
theorem days_range {y m d : Int} (h : right y m d = true) : 0 ≤ (days y m d).1 ∧ (days y m d).1 ≤ 2932896 := by
  rw [days_val h]
  have a := in_year h
  have r := right_iff.1 h
  have h1 := dby_mono 1970 y (by omega) (by omega)
  have h2 := dby_mono (y + 1) 10000 (by omega) (by omega)
  have h3 := dby_succ y (by omega)
  have e1 : dby 1970 = 719162 := by decide
  have e2 : dby 10000 = 3652059 := by decide
  simp only
  omega
theorem guess (n : Int) (h0 : 0 ≤ n) (h1 : n ≤ 2932896) : dby (1970 + n / 366) - 719162 ≤ n := by unfold dby; omega
/-- The date of a day's number. -/
def IsDate (n : Int) (p : Int × Int × Int) : Prop := right p.1 p.2.1 p.2.2 = true ∧ (days p.1 p.2.1 p.2.2).1 = n
open Classical in
noncomputable def ofD (n : Int) : Int × Int × Int := if h : ∃ p, IsDate n p then Classical.choose h else (0, 0, 0)
theorem ofD_eq {n : Int} {p : Int × Int × Int} (h : IsDate n p) : ofD n = p := by
  have hx : ∃ p, IsDate n p := ⟨p, h⟩
  unfold ofD
  rw [dif_pos hx]
  have hc := Classical.choose_spec hx
  obtain ⟨e1, e2, e3⟩ := days_inj hc.1 h.1 (hc.2.trans h.2.symm)
  exact Prod.ext e1 (Prod.ext e2 e3)
end DtCal
namespace DtCal
open Go.Lib
/-- A number in so many digits. -/
def pad (n : Int) (size : Nat) : List UInt8 := List.replicate (size - (itoa n).length) 48 ++ itoa n
end DtCal
namespace DtCal
open Go.Lib
theorem decDigits_lt (u : Nat) (h : u < 10) : decDigits u = [UInt8.ofNat (48 + u)] := by rw [decDigits, dif_pos h]
theorem decDigits_ge (u : Nat) (h : 10 ≤ u) : decDigits u = decDigits (u / 10) ++ [UInt8.ofNat (48 + u % 10)] := by rw [decDigits, dif_neg (by omega)]
theorem decDigits_len (u k : Nat) (h : u < 10 ^ (k + 1)) : (decDigits u).length ≤ k + 1 := by
  induction k generalizing u with
  | zero => rw [decDigits_lt u (by omega)]; simp
  | succ k ih =>
    by_cases hu : u < 10
    · rw [decDigits_lt u hu]; simp
    · rw [decDigits_ge u (by omega)]
      have := ih (u / 10) (by rw [Nat.pow_succ] at h; omega)
      simp; omega
theorem itoa_nat (n : Nat) : itoa n = decDigits n := by unfold itoa; rw [if_neg (by omega)]; simp
theorem itoa_len (n : Int) (h0 : 0 ≤ n) (h1 : n ≤ 99999) : (itoa n).length ≤ 5 := by
  obtain ⟨m, rfl⟩ := Int.eq_ofNat_of_zero_le h0
  rw [itoa_nat]
  exact decDigits_len m 4 (by omega)
end DtCal
namespace DtCal
open Go.Lib
theorem itoa_len_le (n : Int) (k : Nat) (h0 : 0 ≤ n) (h1 : n < ((10 ^ (k + 1) : Nat) : Int)) : (itoa n).length ≤ k + 1 := by
  obtain ⟨m, rfl⟩ := Int.eq_ofNat_of_zero_le h0
  rw [itoa_nat]
  exact decDigits_len m k (by omega)
theorem pad_len (n : Int) (k : Nat) (h0 : 0 ≤ n) (h1 : n < ((10 ^ (k + 1) : Nat) : Int)) : (pad n (k + 1)).length = k + 1 := by
  have := itoa_len_le n k h0 h1
  simp [pad]; omega
end DtCal
namespace DtCal
open Go.Lib
/-- The last digit. -/
def dg (n : Int) : UInt8 := UInt8.ofNat (48 + (n % 10).toNat)
theorem pad_two (n : Int) (h0 : 0 ≤ n) (h1 : n ≤ 99) : pad n 2 = [dg (n / 10), dg n] := by
  obtain ⟨m, rfl⟩ := Int.eq_ofNat_of_zero_le h0
  unfold pad dg
  rw [itoa_nat]
  by_cases h : m < 10
  · rw [decDigits_lt m h]
    have e1 : ((m : Int) / 10 % 10).toNat = 0 := by omega
    have e2 : ((m : Int) % 10).toNat = m := by omega
    rw [e1, e2]
    rfl
  · rw [decDigits_ge m (by omega), decDigits_lt (m / 10) (by omega)]
    have e1 : ((m : Int) / 10 % 10).toNat = m / 10 := by omega
    have e2 : ((m : Int) % 10).toNat = m % 10 := by omega
    rw [e1, e2]
    rfl
theorem pad_four (n : Int) (h0 : 1000 ≤ n) (h1 : n ≤ 9999) : pad n 4 = [dg (n / 1000), dg (n / 100), dg (n / 10), dg n] := by
  obtain ⟨m, rfl⟩ := Int.eq_ofNat_of_zero_le (show 0 ≤ n by omega)
  unfold pad dg
  rw [itoa_nat, decDigits_ge m (by omega), decDigits_ge (m / 10) (by omega), decDigits_ge (m / 10 / 10) (by omega), decDigits_lt (m / 10 / 10 / 10) (by omega)]
  have e1 : ((m : Int) / 10 % 10).toNat = m / 10 % 10 := by omega
  have e2 : ((m : Int) % 10).toNat = m % 10 := by omega
  have e3 : ((m : Int) / 100 % 10).toNat = m / 10 / 10 % 10 := by omega
  have e4 : ((m : Int) / 1000 % 10).toNat = m / 10 / 10 / 10 := by omega
  rw [e1, e2, e3, e4]
  rfl
def textOf (p : Int × Int × Int) (s : Int) : List UInt8 :=
  [dg (p.1 / 1000), dg (p.1 / 100), dg (p.1 / 10), dg p.1, 45, dg (p.2.1 / 10), dg p.2.1, 45, dg (p.2.2 / 10), dg p.2.2, 84,
    dg (s / 3600 / 10), dg (s / 3600), 58, dg (s / 60 % 60 / 10), dg (s / 60 % 60), 58, dg (s % 60 / 10), dg (s % 60), 90]
/-- A time's text. -/
noncomputable def text (t : Int) : List UInt8 := textOf (ofD (t / 86400)) (t % 86400)
end DtCal
namespace DtCal
theorem num_bd {s : List UInt8} {b : Bool} {size : Nat} {beh : List UInt8} {n : Int} {s' : List UInt8} {b' : Bool} (h : num s b size beh = (n, s', b')) (hs : size ≤ 4) : -60000 ≤ n ∧ n ≤ 240000 := by
  unfold num at h
  split at h
  · injection h with h _; omega
  · injection h with h _
    rw [← h]
    exact dec_bound _ (by simp; omega)
theorem days_bd (y m d : Int) : 0 ≤ (days y m d).1 ∧ (days y m d).1 ≤ 2932896 := by
  by_cases h : right y m d = true
  · exact days_range h
  · rw [days, if_neg h]; simp
theorem days_err (y m d : Int) : (days y m d).2 = 0 ∨ (days y m d).2 = 1 := by unfold days; split <;> simp
end DtCal
namespace DtCal
/-- What the numbers of a text's shape tell. -/
def parse2 (y mo d h m x : Int) (z : Int × Int × Int × Bool) : Int × Int :=
  if z.2.2.2 = true then (0, 2)
  else if (days y mo d).2 ≠ 0 ∨ h > 23 ∨ m > 59 ∨ x > 59 ∨ z.2.1 > 23 ∨ z.2.2.1 > 59 ∨ time (days y mo d).1 h m x z < 0 ∨ time (days y mo d).1 h m x z ≥ 253402300800 then (0, 1)
  else (time (days y mo d).1 h m x z, 0)
def parse (s : List UInt8) : Int × Int :=
  let p := shape s
  parse2 p.1.1 p.1.2.1 p.1.2.2 p.2.1.1 p.2.1.2.1 p.2.1.2.2 p.2.2
end DtCal
end
section
set_option linter.unusedVariables false
set_option linter.unusedSimpArgs false
namespace Go.Proofs.YtllhbcpbihhdnaaGreatDoor
open Go.RowKit
set_option maxRecDepth 100000
theorem num_short (ps pb : Nat) (s : ByteArray) (b : Bool) (size : Nat) (beh : ByteArray) (w : World)
    (hs : One w ps (.string s) 9) (hb : One w pb (.bool b) 4) (hsz : size ≤ 4) (hne : ps ≠ pb) (hlt : s.size < size) :
    Calls Tryz.prog 92 #[.int .i64 size, .string beh, .pointer (some ⟨ps, 0, none⟩), .pointer (some ⟨pb, 0, none⟩)] w fun e w' =>
      e = .returned (.int .i64 0) ∧ One w' ps (.string s) 9 ∧ One w' pb (.bool true) 4 ∧ Chg (· = pb) w w' := by
  have cs := cell_of_one hs
  have cb := cell_of_one hb
  have fb := free_of_one hb
  have h1 : decide (s.size < size) = true := by simpa using hlt
  go_enter Tryz.func92, Tryz.ntmps92
  go_wp2
  go_ret
  exact ⟨rfl, hs.setOther _ hne, hb.set, (Chg.refl (· = pb) w).setCell (p := ⟨pb, 0, none⟩) (fun _ => rfl) _⟩
theorem num_long (ps pb : Nat) (s : ByteArray) (b : Bool) (size : Nat) (beh : ByteArray) (w : World)
    (hs : One w ps (.string s) 9) (hb : One w pb (.bool b) 4) (hsz : size ≤ 4) (hne : ps ≠ pb) (hlt : size ≤ s.size) :
    Calls Tryz.prog 92 #[.int .i64 size, .string beh, .pointer (some ⟨ps, 0, none⟩), .pointer (some ⟨pb, 0, none⟩)] w fun e w' =>
      e = .returned (.int .i64 (DtCal.num s.data.toList b size beh.data.toList).1) ∧ One w' ps (.string ⟨(DtCal.num s.data.toList b size beh.data.toList).2.1.toArray⟩) 9 ∧ One w' pb (.bool (DtCal.num s.data.toList b size beh.data.toList).2.2) 4 ∧ Chg (fun k => k = ps ∨ k = pb) w w' := by
  have cs := cell_of_one hs
  have cb := cell_of_one hb
  have fb := free_of_one hb
  have fs := free_of_one hs
  have h1 : decide (s.size < size) = false := by simpa using hlt
  have kb := fun W => Lib.run_convert_string_bytes (P := Tryz.prog) W 9 40 5 (s.extract 0 size) Tryz.underlying9 Tryz.underlying40 Tryz.underlying5
  go_enter Tryz.func92, Tryz.ntmps92
  go_wp2
  have hds : s.data.toList.length = s.size := by simp
  have hbsz : w.heap.size < (Lib.bytesWorld w 5 (s.extract 0 size)).heap.size := by rw [Lib.bytesWorld_size]; omega
  have hpsl := lt_of_block hs
  have hpbl := lt_of_block hb
  have hext : (s.extract 0 size).data.toList = s.data.toList.take size := by rw [Lib.extract_data]; simp
  go_loopw [7, 21] (fun n i wr => ∃ k : Nat, k ≤ size ∧ i = .int .i64 k ∧ n = .int .i64 (DtCal.dec (s.data.toList.take k)) ∧
      One wr ps (.string s) 9 ∧ One wr pb (.bool (b || (s.data.toList.take k).any (fun c => !DtCal.digit c))) 4 ∧ Chg (fun q => q = ps ∨ q = pb) w wr ∧
      Hid (∀ j, j < size → wr.cell? ⟨w.heap.size, j, none⟩ = some (.int .u8 (s.data.toList.getD j 0).toNat)) ∧ w.heap.size < wr.heap.size)
    (fun _ i _ => size - (intOf i).toNat)
  case atStart =>
    refine ⟨0, by omega, rfl, rfl, hs.bytes _ _, by simpa using hb.bytes _ _, (Chg.refl _ w).bytes _ _, fun j hj => ?_, hbsz⟩
    rw [Lib.bytesWorld_cell _ _ _ _ (by simp; omega), hext]
    simp [List.getD_eq_getElem?_getD, hj]
  case round =>
    obtain ⟨k, hk, rfl, rfl, hs1, hb1, hch, hcell, hsize⟩ := hrel
    have cs := cell_of_one hs1
    have cb := cell_of_one hb1
    have fb := free_of_one hb1
    have fs := free_of_one hs1
    have hd := DtCal.dec_bound (s.data.toList.take k) (by simp; omega)
    by_cases hlt : k < size
    · have hc := hcell.out k hlt
      have hkl : k < s.data.toList.length := by simp; omega
      have HT := Lib.hid (DtCal.take_snoc s.data.toList k hkl)
      have hg : s.data.toList.getD k 0 = s.data.toList[k] := by rw [List.getD_eq_getElem?_getD, List.getElem?_eq_getElem hkl]; rfl
      rw [hg] at hc
      generalize hcv : s.data.toList[k] = c at hc HT
      have hcr := c.toNat_lt
      clear hcv hg
      generalize hbb : (b || (s.data.toList.take k).any fun c => !DtCal.digit c) = bb at hb1 cb
      have HBB := Lib.hid hbb
      clear hbb
      have fin : ∀ (wr' : World), One wr' ps (.string s) 9 → One wr' pb (.bool (bb || !DtCal.digit c)) 4 → Chg (fun q => q = ps ∨ q = pb) w wr' →
          (∀ j, j < size → wr'.cell? ⟨w.heap.size, j, none⟩ = some (.int .u8 (s.data.toList.getD j 0).toNat)) → w.heap.size < wr'.heap.size →
          ∃ k' : Nat, k' ≤ size ∧ Value.int .i64 (↑k + 1) = .int .i64 k' ∧ Value.int .i64 (10 * DtCal.dec (s.data.toList.take k) + ↑c.toNat - 48) = .int .i64 (DtCal.dec (s.data.toList.take k')) ∧
      One wr' ps (.string s) 9 ∧ One wr' pb (.bool (b || (s.data.toList.take k').any (fun c => !DtCal.digit c))) 4 ∧ Chg (fun q => q = ps ∨ q = pb) w wr' ∧
      Hid (∀ j, j < size → wr'.cell? ⟨w.heap.size, j, none⟩ = some (.int .u8 (s.data.toList.getD j 0).toNat)) ∧ w.heap.size < wr'.heap.size := by
        intro wr' a1 a2 a3 a4 a5
        refine ⟨k + 1, by omega, by simp, by rw [HT.out, DtCal.dec_snoc], a1, ?_, a3, a4, a5⟩
        rw [HT.out, List.any_append]
        simpa [← Bool.or_assoc, HBB.out] using a2
      have hsame : ∀ v, (∀ j, j < size → (wr.setCell ⟨pb, 0, none⟩ v).cell? ⟨w.heap.size, j, none⟩ = some (.int .u8 (s.data.toList.getD j 0).toNat)) := fun v j hj => by
        rw [World.cell?_setCell_other _ _ _ _ (by intro e; have := congrArg Addr.block e; simp only at this; omega)]; exact hcell.out j hj
      have hsz2 : ∀ v, w.heap.size < (wr.setCell ⟨pb, 0, none⟩ v).heap.size := fun v => by simpa [World.setCell] using hsize
      clear HT HBB
      have H1 := Lib.hid hsame
      have H2 := Lib.hid fin
      clear hsame fin
      have h48 : DtCal.digit c = decide (48 ≤ (c.toNat : Int) ∧ (c.toNat : Int) ≤ 57) := by
        unfold DtCal.digit; rw [Bool.eq_iff_iff]; simp only [Bool.and_eq_true, decide_eq_true_eq]; omega
      have H3 := Lib.hid h48
      clear h48
      go_wp2
      all_goals
        go_roundw
        case measure => simp [intOf]; omega
        case rel =>
          refine H2.out _ (hs1.setOther _ hne) ?_ (hch.setCell (p := ⟨pb, 0, none⟩) (fun _ => Or.inr rfl) _) (H1.out _) (hsz2 _)
          rw [H3.out]
          refine Eq.trans (hb1.set) ?_
          congr 4
          cases bb
          · first
            | (exfalso; exact Bool.noConfusion ‹false = true›)
            | (congr 1; rw [Bool.eq_iff_iff]; simp; done)
            | (congr 1; rw [Bool.eq_iff_iff]; simp; omega)
          · first | (exfalso; exact ‹¬true = true› rfl) | (simp; done) | (simp; omega)
    · have hke : k = size := by omega
      subst hke
      generalize hbb : (b || (s.data.toList.take k).any fun c => !DtCal.digit c) = bb at hb1 cb
      have HBB := Lib.hid hbb
      clear hbb
      have HTK := Lib.hid (show List.take (s.size - k) (List.drop k s.data.toList) = s.data.toList.drop k from List.take_of_length_le (by simp))
      go_wp2_with (go_at_call 31; refine (Tryz.strings_CutPrefix _ _ _).mono ?_; rintro e w' ⟨rfl, rfl⟩)
      all_goals
        go_ret
        have hnum : DtCal.num s.data.toList b k beh.data.toList = (DtCal.dec (s.data.toList.take k), Lib.trimPrefix (s.data.toList.drop k) beh.data.toList, bb || !Lib.hasPrefix (s.data.toList.drop k) beh.data.toList) := by
          unfold DtCal.num; rw [if_neg (by omega), HBB.out]; rfl
        rw [hnum]
        refine ⟨rfl, ?_, ?_, ((hch.setCell (p := ⟨pb, 0, none⟩) (fun _ => Or.inr rfl) _).setCell (p := ⟨ps, 0, none⟩) (fun _ => Or.inl rfl) _)⟩
        · rw [HTK.out]; exact (hs1.setOther _ hne).set
        · rw [HTK.out]
          refine Eq.trans (One.setOther hb1.set _ (Ne.symm hne)) ?_
          congr 4
          cases bb <;> simp_all
/-- Both in one; what comes out under names. -/
theorem num_any (ps pb : Nat) (s : ByteArray) (b : Bool) (size : Nat) (beh : ByteArray) (w : World) (n : Int) (s' : List UInt8) (b' : Bool)
    (hs : One w ps (.string s) 9) (hb : One w pb (.bool b) 4) (hn : Hid (DtCal.num s.data.toList b size beh.data.toList = (n, s', b'))) (hsz : size ≤ 4) (hne : ps ≠ pb) :
    Calls Tryz.prog 92 #[.int .i64 size, .string beh, .pointer (some ⟨ps, 0, none⟩), .pointer (some ⟨pb, 0, none⟩)] w fun e w' =>
      e = .returned (.int .i64 n) ∧ Aside (One w' ps (.string ⟨s'.toArray⟩) 9 ∧ One w' pb (.bool b') 4 ∧ Chg (fun k => k = ps ∨ k = pb) w w') := by
  have hl : s.data.toList.length = s.size := by simp
  by_cases h : s.size < size
  · have e := hn.out
    unfold DtCal.num at e
    rw [if_pos (by omega)] at e
    injection e with e1 e2
    injection e2 with e2 e3
    subst e1 e2 e3
    exact (num_short ps pb s b size beh w hs hb hsz hne h).mono fun e w' ⟨a, b, c, d⟩ => ⟨a, ⟨b, c, d.mono fun _ _ h => Or.inr h⟩⟩
  · refine (num_long ps pb s b size beh w hs hb hsz hne (by omega)).mono ?_
    rw [hn.out]
    exact fun e w' ⟨a, b, c, d⟩ => ⟨a, ⟨b, c, d⟩⟩
theorem num_z (ps pb : Nat) (s : ByteArray) (b : Bool) (z : Int) (beh : ByteArray) (w : World) (n : Int) (s' : List UInt8) (b' : Bool)
    (hs : One w ps (.string s) 9) (hb : One w pb (.bool b) 4) (hn : Hid (DtCal.num s.data.toList b z.toNat beh.data.toList = (n, s', b'))) (hz : 0 ≤ z ∧ z ≤ 4) (hne : ps ≠ pb) :
    Calls Tryz.prog 92 #[.int .i64 z, .string beh, .pointer (some ⟨ps, 0, none⟩), .pointer (some ⟨pb, 0, none⟩)] w fun e w' =>
      e = .returned (.int .i64 n) ∧ Aside (One w' ps (.string ⟨s'.toArray⟩) 9 ∧ One w' pb (.bool b') 4 ∧ Chg (fun k => k = ps ∨ k = pb) w w') := by
  obtain ⟨k, rfl⟩ := Int.eq_ofNat_of_zero_le hz.1
  exact num_any ps pb s b k beh w n s' b' hs hb hn (by omega) hne
/-- What stands while a text is parsed: the text and the fault in their blocks; other blocks of the call's own. -/
structure St (w : World) (s : ByteArray) (b : Bool) (L : List (Nat × Array Value × TypeId)) (W : World) : Prop where
  str : One W w.heap.size (.string s) 9
  bad : One W (w.heap.size + 1) (.bool b) 4
  low : Below w.heap.size w W
  size : w.heap.size + 2 ≤ W.heap.size
  own : ∀ x ∈ L, w.heap.size + 2 ≤ x.1 ∧ Blk W x.1 x.2.1 x.2.2
theorem St.start (w : World) (s : ByteArray) : St w s false [] ((w.alloc (.cells #[.string s] 9)).alloc (.cells #[.bool false] 4)) := by
  refine ⟨One.old (One.alloc _ _) _, ?_, ((Below.refl _ _).alloc (Nat.le_refl _) _).alloc (by simp) _, by simp, fun x h => by cases h⟩
  have O2 := One.alloc (w := w.alloc (.cells #[.string s] 9 (0, 0))) (.bool false) 4
  simpa only [World.size_alloc] using O2
theorem St.alloc {w : World} {s : ByteArray} {b : Bool} {L : List (Nat × Array Value × TypeId)} {W : World} (h : St w s b L W) (cs : Array Value) (t : TypeId) :
    St w s b ((W.heap.size, cs, t) :: L) (W.alloc (.cells cs t)) :=
  ⟨h.str.old _, h.bad.old _, h.low.alloc (by have := h.size; omega) _, by have := h.size; simp; omega, fun x hx => by
    rcases List.mem_cons.1 hx with rfl | hx
    · exact ⟨h.size, Blk.new _ _⟩
    · exact ⟨(h.own x hx).1, (h.own x hx).2.old _⟩⟩
theorem St.setS {w : World} {s : ByteArray} {b : Bool} {L : List (Nat × Array Value × TypeId)} {W : World} (h : St w s b L W) (s' : ByteArray) : St w s' b L (W.setCell ⟨w.heap.size, 0, none⟩ (.string s')) :=
  ⟨h.str.set, h.bad.setOther _ (by simp), h.low.setCell (Nat.le_refl _) _, by simpa [World.setCell] using h.size, fun x hx => ⟨(h.own x hx).1, (h.own x hx).2.setOther _ (by have := (h.own x hx).1; simp; omega)⟩⟩
theorem St.setB {w : World} {s : ByteArray} {b : Bool} {L : List (Nat × Array Value × TypeId)} {W : World} (h : St w s b L W) (b' : Bool) : St w s b' L (W.setCell ⟨w.heap.size + 1, 0, none⟩ (.bool b')) :=
  ⟨h.str.setOther _ (by simp), h.bad.set, h.low.setCell (by simp) _, by simpa [World.setCell] using h.size, fun x hx => ⟨(h.own x hx).1, (h.own x hx).2.setOther _ (by have := (h.own x hx).1; simp; omega)⟩⟩
theorem St.chg {w : World} {s s' : ByteArray} {b b' : Bool} {L : List (Nat × Array Value × TypeId)} {W W' : World} (h : St w s b L W)
    (o1 : One W' w.heap.size (.string s') 9) (o2 : One W' (w.heap.size + 1) (.bool b') 4) (hc : Chg (fun k => k = w.heap.size ∨ k = w.heap.size + 1) W W') : St w s' b' L W' :=
  ⟨o1, o2, Chg.below h.low hc (fun k q => by omega) (by have := h.size; omega), by have := h.size; have := hc.size; omega,
    fun x hx => ⟨(h.own x hx).1, (h.own x hx).2.chg hc (by have := (h.own x hx).1; omega)⟩⟩
theorem num_st (w : World) (s : ByteArray) (b : Bool) (L : List (Nat × Array Value × TypeId)) (z : Int) (beh : ByteArray) (W : World) (n : Int) (s' : List UInt8) (b' : Bool)
    (hs : St w s b L W) (hn : Hid (DtCal.num s.data.toList b z.toNat beh.data.toList = (n, s', b'))) (hz : 0 ≤ z ∧ z ≤ 4) :
    Calls Tryz.prog 92 #[.int .i64 z, .string beh, .pointer (some ⟨w.heap.size, 0, none⟩), .pointer (some ⟨w.heap.size + 1, 0, none⟩)] W fun e w' =>
      e = .returned (.int .i64 n) ∧ St w ⟨s'.toArray⟩ b' L w' :=
  (num_z w.heap.size (w.heap.size + 1) s b z beh W n s' b' hs.str hs.bad hn hz (by omega)).mono fun _ _ ⟨e, ⟨o1, o2, hc⟩⟩ => ⟨e, hs.chg o1 o2 hc⟩
end Go.Proofs.YtllhbcpbihhdnaaGreatDoor
end
section
set_option linter.unusedVariables false
set_option linter.unusedSimpArgs false
namespace Go.Proofs.YtllhbcpbihhdnaaGreatDoor
open Go.RowKit
/-- The walk of what is left of a region; closed, so that nothing unfolds it. -/
structure WQ (P : Program) (ops : Array Oper) (C : World → Prop) (Q : Act → Prop) (l : List Oper) (a : Act) : Prop where
  mk :: (out : wpQuiet P ops C Q l a)
section
variable {P : Program} {ops : Array Oper} {C : World → Prop} {a : Act} {o : Oper} {rest : List Oper} {Q : Act → Prop}
theorem region_class {id : Nat} {Q : Exit → Act → World → Prop} {w : World} {l : List Oper} (hm : P.follows .mixedOrders = true) (hB : Region.lexB .any l.toArray = true) (hC : C w.drew)
    (h : WQ P l.toArray C (fun a' => ∀ w', C w' → Q .normal a' w') l a) : (Code.region id l.toArray true).wp P Q a w :=
  wp_region_quiet hm hB hC (by simpa using h.out)
theorem q_nil (h : Q a) : WQ P ops C Q [] a := ⟨wpQuiet_nil h⟩
theorem q_skip (hw : Region.wanted o (yielded ops a.tmps) = false) (h : WQ P ops C Q rest (a.put o.dst undef)) : WQ P ops C Q (o :: rest) a := ⟨BigFrame.wpQuiet_skip hw h.out⟩
theorem q_run (hw : Region.wanted o (yielded ops a.tmps) = true) (v : Value) (hv : ∀ w, C w → (execOp a.eval o).run P w = .ok (.value v) w) (h : WQ P ops C Q rest (a.put o.dst v)) : WQ P ops C Q (o :: rest) a :=
  ⟨BigFrame.wpQuiet_want hw fun K hK => ⟨v, fun w hC => by unfold Oper.quietAt; rw [hv w hC]; exact ⟨rfl, rfl⟩, hK _ h.out⟩⟩
theorem q_call (hw : Region.wanted o (yielded ops a.tmps) = true) (v : Value) (f : FuncId) (args : Array Value) (hv : ∀ w, C w → (execOp a.eval o).run P w = .ok (.enter f args) w)
    (hc : ∀ w, C w → Calls P f args w fun e w' => e = .returned v ∧ C w') (h : WQ P ops C Q rest (a.put o.dst v)) : WQ P ops C Q (o :: rest) a :=
  ⟨BigFrame.wpQuiet_want hw fun K hK => ⟨v, fun w hC => by unfold Oper.quietAt; rw [hv w hC]; exact ⟨rfl, hc w hC⟩, hK _ h.out⟩⟩
theorem q_row (hw : Region.wanted o (yielded ops a.tmps) = true) (T : TypeId) (x : Operand) (ho : o.op = .load T x) (b k : Nat) (hx : a.eval x = .pointer (some ⟨b, k, none⟩)) (cs : List Value) (d : TypeDesc)
    (hc : ∀ w, C w → w.rangeAt b k cs) (hu : P.underlying T = some d) (hd : d.isRow = true) (hi : (P.info? T).map (·.size) = some cs.length) (h : WQ P ops C Q rest (a.put o.dst (.agg cs.toArray))) : WQ P ops C Q (o :: rest) a :=
  q_run hw _ (fun w hC => by
    unfold execOp
    simp only [ho, hx, Sem.run_bind, run_loadAt_mid w b k T cs d (hc w hC) hu hd hi, Result.andThen_ok, Sem.run_pure]) h
end
end Go.Proofs.YtllhbcpbihhdnaaGreatDoor
end
section
set_option linter.unusedVariables false
set_option linter.unusedSimpArgs false
namespace Go.Proofs.YtllhbcpbihhdnaaGreatDoor
open Go.RowKit
section
variable {P : Program} {ops : Array Oper} {rest : List Oper} {op : Oper} {a : Act} {w W : World} {Q : Exit → Act → World → Prop}
theorem at_dst {N : Tmp} (_h : op.dst = some N) (h : wpList P ops Q (op :: rest) a w) : wpList P ops Q (op :: rest) a w := h
theorem at_store {T : TypeId} {p : Tmp} {v : Operand} (_h : op.op = .store T (.tmp p) v) (h : wpList P ops Q (op :: rest) a w) : wpList P ops Q (op :: rest) a w := h
theorem step_value (hgd : op.guard = none) (v : Value) (hrun : (execOp a.eval op).run P w = .ok (.value v) w) (h : wpList P ops Q rest (a.put op.dst v) w) : wpList P ops Q (op :: rest) a w := by
  refine wpList_plain hgd fun K hK => ?_
  unfold Oper.wp
  rw [hrun]
  exact hK _ _ h
theorem step_world (hgd : op.guard = none) (v : Value) (w2 : World) (hrun : (execOp a.eval op).run P w = .ok (.value v) w2) (h : wpList P ops Q rest (a.put op.dst v) w2) : wpList P ops Q (op :: rest) a w := by
  refine wpList_plain hgd fun K hK => ?_
  unfold Oper.wp
  rw [hrun]
  exact hK _ _ h
theorem store_new (hgd : op.guard = none) (T : TypeId) (x y : Operand) (c c' : Array Value) (ho : op.op = .store T x y) (H : Nat) (hH : W.heap.size = H)
    (hx : a.eval x = .pointer (some ⟨H, 0, none⟩)) (hy : a.eval y = .agg c') (hi : (P.info? T).map (·.size) = some c'.size) (hs : c.size = c'.size) (h1 : c'.all (·.oneCell') = true)
    (h : wpList P ops Q rest (a.put op.dst undef) (W.alloc (.cells c' T))) : wpList P ops Q (op :: rest) a (W.alloc (.cells c T)) := by
  refine wpList_plain hgd fun K hK => ?_
  subst hH
  have hr := run_storeAt_new (P := P) W T c c' hi hs h1
  unfold Oper.wp execOp
  simp only [ho, hx, hy, Sem.run_bind, hr, Result.andThen_ok, Sem.run_pure]
  exact hK _ _ h
theorem load_blk_g (b : Nat) (ty : TypeId) (hw : Region.wanted op (yielded ops a.tmps) = true) (x : Operand) (ho : op.op = .load ty x)
    (hx : a.eval x = .pointer (some ⟨b, 0, none⟩)) (cs : Array Value) (t : TypeId) (d : TypeDesc) (hb : Blk w b cs t) (hu : P.underlying ty = some d) (hd : d.isRow = true) (hi : (P.info? ty).map (·.size) = some cs.size)
    (h : wpList P ops Q rest (a.put op.dst (.agg cs)) w) : wpList P ops Q (op :: rest) a w := by
  refine wpList_step fun K hK => ?_
  rw [if_pos hw]
  refine wp_load_mid ty x ho b 0 hx cs.toList d (fun j v hv => ?_) hu hd (by simpa using hi) (hK _ _ (by simpa using h))
  have := hb.cell j v (by simpa using hv)
  simpa using this
end
end Go.Proofs.YtllhbcpbihhdnaaGreatDoor
end
section
set_option linter.unusedVariables false
set_option linter.unusedSimpArgs false
namespace Go.Proofs.YtllhbcpbihhdnaaGreatDoor
open Go.RowKit
def setL (cs : Array Value) : Nat → List Value → Array Value
  | _, [] => cs
  | o, v :: r => setL (cs.setIfInBounds o v) (o + 1) r
theorem Blk.setCells {b : Nat} {t : TypeId} : ∀ (vs : List Value) (o : Nat) {w : World} {cs : Array Value}, Blk w b cs t → Blk (w.setCells b o vs) b (setL cs o vs) t
  | [], _, _, _, h => h
  | v :: r, o, _, _, h => Blk.setCells r (o + 1) (h.set o v)
theorem chg_setCells {b : Nat} : ∀ (vs : List Value) (o : Nat) (w : World), Chg (fun k => k = b) w (w.setCells b o vs)
  | [], _, w => Chg.refl _ w
  | v :: r, o, w => ((Chg.refl (fun k => k = b) w).setCell (p := ⟨b, o, none⟩) (fun _ => rfl) v).trans (chg_setCells r (o + 1) _) (fun _ _ q => q)
theorem setL_list : ∀ (vs pre old tail : List Value), vs.length = old.length → setL (pre ++ old ++ tail).toArray pre.length vs = (pre ++ vs ++ tail).toArray
  | [], pre, [], tail, _ => by simp [setL]
  | v :: vs, pre, o :: old, tail, h => by
    have h1 := setL_list vs (pre ++ [v]) old tail (by simpa using h)
    unfold setL
    simp only [List.length_append, List.length_cons, List.length_nil, Nat.zero_add, List.append_assoc, List.cons_append, List.nil_append] at h1 ⊢
    rw [← h1]
    congr 1
    apply Array.ext'
    simp
theorem setL_all {c c' : Array Value} (h : c'.size = c.size) : setL c 0 c'.toList = c' := by
  have := setL_list c'.toList [] c.toList [] (by simpa using h)
  simpa using this
theorem blk_there {w : World} {b : Nat} {cs : Array Value} {t : TypeId} (h : Blk w b cs t) (n : Nat) (hn : n = cs.size) : w.there b 0 n := by
  subst hn
  intro j hj
  rw [Nat.zero_add]
  refine ⟨?_, h.free j⟩
  rw [h.cell j cs[j] (by simp [hj])]
  rfl
theorem blk_range {w : World} {b : Nat} {cs : Array Value} {t : TypeId} (h : Blk w b cs t) : w.rangeAt b 0 cs.toList := fun j v hv => by
  rw [Nat.zero_add]
  exact h.cell j v (by simpa using hv)
section
variable {P : Program} {ops : Array Oper} {rest : List Oper} {o : Oper} {a : Act} {w : World} {Q : Exit → Act → World → Prop}
theorem store_blk (hgd : o.guard = none) (T : TypeId) (x y : Operand) (ho : o.op = .store T x y) (b : Nat) (hx : a.eval x = .pointer (some ⟨b, 0, none⟩)) (c c' : Array Value) (t : TypeId) (hb : Blk w b c t) (hy : a.eval y = .agg c')
    (hs : c'.size = c.size) (hi : (P.info? T).map (·.size) = some c'.size) (h1 : c'.all (·.oneCell') = true)
    (h : ∀ w', Blk w' b c' t → Chg (fun k => k = b) w w' → wpList P ops Q rest (a.put o.dst undef) w') : wpList P ops Q (o :: rest) a w := by
  refine wpList_store_mid hgd T x y ho b 0 c' hx hy (blk_there hb _ hs) hi h1 ?_
  refine h _ ?_ (chg_setCells _ _ _)
  have := Blk.setCells c'.toList 0 hb
  rwa [setL_all hs] at this
theorem load_blk (hgd : o.guard = none) (T : TypeId) (x : Operand) (ho : o.op = .load T x) (b : Nat) (hx : a.eval x = .pointer (some ⟨b, 0, none⟩)) (cs : Array Value) (t : TypeId) (d : TypeDesc) (hb : Blk w b cs t) (hu : P.underlying T = some d) (hd : d.isRow = true) (hi : (P.info? T).map (·.size) = some cs.size)
    (h : wpList P ops Q rest (a.put o.dst (.agg cs)) w) : wpList P ops Q (o :: rest) a w :=
  wpList_load_mid hgd T x ho b 0 hx cs.toList d (blk_range hb) hu hd (by simpa using hi) (by simpa using h)
theorem insert_map (hgd : o.guard = none) (T K E : TypeId) (hT : P.underlying T = some (.map K E)) (hK : P.underlying K = some .string) (m k v : Operand) (ho : o.op = .insert T m k v) (r : Nat) (hm : a.eval m = .map (some r)) (key : ByteArray) (hk : a.eval k = .string key) (val : Value) (hv : a.eval v = val)
    (es : List MapEntry) (c : Nat) (hb : w.heap[r]? = some (.map es.toArray c)) (hf : Instr.findNow .string (.string key) es 0 = some none)
    (h : ∀ w', w'.heap[r]? = some (.map (es ++ [({ key := .string key, val := val, born := c } : MapEntry)]).toArray (c + 1)) → Chg (fun k => k = r) w w' → w'.heap.size = w.heap.size → wpList P ops Q rest (a.put o.dst undef) w') : wpList P ops Q (o :: rest) a w := by
  have hu := mapUpdate_at hT hK hb key val (by simpa using hf)
  have hlt : r < w.heap.size := (Array.getElem?_eq_some_iff.1 hb).1
  refine wpList_plain hgd fun K' hK' => ?_
  unfold Oper.wp
  have hrun : (execOp a.eval o).run P w = .ok .skip { w with heap := w.heap.setIfInBounds r (.map (es.toArray.push ⟨.string key, val, c⟩) (c + 1)) } := by
    simp only [execOp, ho, hm, hk, hv, Sem.run_bind, hu, Result.andThen_ok, Sem.run_pure]
  rw [hrun]
  refine hK' _ _ (h _ ?_ ?_ ?_)
  · show (w.heap.setIfInBounds r _)[r]? = _
    rw [Array.getElem?_setIfInBounds, if_pos rfl, if_pos hlt]
    simp
  · exact ⟨rfl, rfl, rfl, by simp, fun k _ hn => by
      show (w.heap.setIfInBounds r _)[k]? = _
      rw [Array.getElem?_setIfInBounds, if_neg (fun e => hn e.symm)]⟩
  · simp
end
/-- A result that lies in a block, and one in a slot. -/
theorem results_blk {P : Program} {fn : Func} {x t : Tmp} {T : TypeId} (h : fn.results = #[.cell x T, .tmp t]) (tmps : Array Value) (w : World) (b : Nat) (hx : tmps.getD x undef = .pointer (some ⟨b, 0, none⟩)) (cs : Array Value) (t' : TypeId) (d : TypeDesc) (hb : Blk w b cs t') (hu : P.underlying T = some d) (hd : d.isRow = true) (hi : (P.info? T).map (·.size) = some cs.size) :
    (results fn tmps).run P w = .ok (.tuple #[.agg cs, tmps.getD t undef]) w := by
  have hl := run_loadVar_mid (P := P) w b 0 T cs.toList d (blk_range hb) hu hd (by simpa using hi)
  have hx' : tmps[x]?.getD undef = .pointer (some ⟨b, 0, none⟩) := by simpa using hx
  simp [results, h, hx', asAddr, hl]
end Go.Proofs.YtllhbcpbihhdnaaGreatDoor
end
section
set_option linter.unusedVariables false
set_option linter.unusedSimpArgs false
namespace Go.Proofs.YtllhbcpbihhdnaaGreatDoor
open Go.RowKit
/-- A slice at A reads as these texts (nil, or anything, where there is none). -/
def Strs (w : World) (A : Option Addr) (xs : List ByteArray) : Prop := xs ≠ [] → ∃ b o, A = some ⟨b, o, none⟩ ∧ b < w.heap.size ∧ ∀ j, (h : j < xs.length) → w.cell? ⟨b, o + j, none⟩ = some (.string xs[j])
theorem Strs.nil (w : World) (A : Option Addr) : Strs w A [] := fun h => absurd rfl h
theorem Strs.next {w w1 : World} {A : Option Addr} {xs : List ByteArray} (h : Strs w A xs) (hb : Below w.heap.size w w1) : Strs w1 A xs := fun hn => by
  obtain ⟨b, o, e, hl, hc⟩ := h hn
  exact ⟨b, o, e, Nat.lt_of_lt_of_le hl hb.size, fun j hj => cell_next hb (hc j hj)⟩
theorem Strs.at {w : World} {A : Option Addr} {xs : List ByteArray} (h : Strs w A xs) (k : Nat) (hk : k < xs.length) : ∃ b o, A = some ⟨b, o, none⟩ ∧ b < w.heap.size ∧ w.cell? ⟨b, o + k, none⟩ = some (.string xs[k]) := by
  obtain ⟨b, o, e, hl, hc⟩ := h (by intro e; rw [e] at hk; simp at hk)
  exact ⟨b, o, e, hl, hc k hk⟩
/-- What a row of the call's own reads as. -/
theorem Strs.ofOwn {w : World} {base : Nat} {e : TypeId} {A : Option Addr} {n c : Nat} {xs : List ByteArray} (h : w.ownsRow base e 1 (.slice A n c) xs.length (xs.map Value.string)) : Strs w A xs := fun hn => by
  obtain ⟨g, cap, hv, _, hlt⟩ := World.ownsRow.form h (by cases xs with | nil => exact absurd rfl hn | cons => simp)
  injection hv with hA _ _
  subst hA
  exact ⟨g, 0, rfl, hlt, fun j hj => by
    have := World.ownsRow.cells h (g := g) rfl j (.string xs[j]) (by simp [hj])
    rw [Addr.add_mid] at this
    simpa using this⟩
end Go.Proofs.YtllhbcpbihhdnaaGreatDoor
end
section
set_option linter.unusedVariables false
namespace Go.Proofs.YtllhbcpbihhdnaaGreatDoor
open Go.RowKit
/-- A store into the youngest block. -/
theorem Mine.set {w : World} {b : Nat} {cs : Array Value} {t : TypeId} {L : List (Nat × Array Value × TypeId)} {W : World} (h : Mine w ((b, cs, t) :: L) W) (hne : ∀ x ∈ L, x.1 ≠ b) (i : Nat) (v : Value) : Mine w ((b, cs.setIfInBounds i v, t) :: L) (W.setCell ⟨b, i, none⟩ v) :=
  have h0 := h.own _ (List.mem_cons_self ..)
  ⟨h.low.setCell (p := ⟨b, i, none⟩) h0.1 v, fun x hx => by
    rcases List.mem_cons.1 hx with rfl | hx
    · exact ⟨h0.1, h0.2.set i v⟩
    · exact ⟨(h.own x (List.mem_cons_of_mem _ hx)).1, (h.own x (List.mem_cons_of_mem _ hx)).2.setOther _ (hne x hx)⟩⟩
theorem Mine.swap {w : World} {x y : Nat × Array Value × TypeId} {L : List (Nat × Array Value × TypeId)} {W : World} (h : Mine w (x :: y :: L) W) : Mine w (y :: x :: L) W := ⟨h.low, fun z hz => h.own z (by simp only [List.mem_cons] at hz ⊢; rcases hz with h | h | h <;> simp [h])⟩
theorem Mine.setLow {w : World} {L : List (Nat × Array Value × TypeId)} {W : World} (h : Below w.heap.size w W) {p : Addr} (hp : w.heap.size ≤ p.block) (v : Value) : Below w.heap.size w (W.setCell p v) := h.setCell hp v
end Go.Proofs.YtllhbcpbihhdnaaGreatDoor
end
section
set_option linter.unusedVariables false
set_option linter.unusedSimpArgs false
namespace Go.Proofs.YtllhbcpbihhdnaaGreatDoor
open Go.RowKit
/-- A row of the call's own: the texts that were appended. -/
def Row (w : World) (base : Nat) (v : Value) (xs : List ByteArray) : Prop := w.ownsRow base 9 1 v xs.length (xs.map Value.string)
theorem Row.nil (w : World) (base : Nat) : Row w base (.slice none 0 0) [] := World.ownsRow_nil _ _ _ _
theorem Row.kept {w w' : World} {base : Nat} {v : Value} {xs : List ByteArray} {row : Option Nat} (h : Row w base v xs) (hg : w.grownBy w' row) (hne : v.ownBlock = none ∨ v.ownBlock ≠ row) : Row w' base v xs := World.ownsRow.kept h hg hne
theorem grown_below {w w' : World} (h : Below w.heap.size w w') : w.grownBy w' none := ⟨h.os, h.tape, h.output, h.size, fun i hi _ => h.block i hi⟩
theorem Row.next {w w' : World} {base : Nat} {v : Value} {xs : List ByteArray} (h : Row w base v xs) (hb : Below w.heap.size w w') : Row w' base v xs := by
  refine h.kept (grown_below hb) ?_
  cases v.ownBlock with
  | none => exact .inl rfl
  | some k => exact .inr (by simp)
theorem Row.alloc {w : World} {base : Nat} {v : Value} {xs : List ByteArray} (h : Row w base v xs) (o : Obj) : Row (w.alloc o) base v xs := World.ownsRow.alloc h o
theorem Row.drewN {w : World} {base : Nat} {v : Value} {xs : List ByteArray} (h : Row w base v xs) (n : Nat) : Row (w.drewN n) base v xs := h.next (pw_below_drewN (Below.refl _ _) n)
/-- Blocks of other elements are no part of it. -/
theorem Row.ne {w : World} {base : Nat} {v : Value} {xs : List ByteArray} (h : Row w base v xs) {b : Nat} {cs : Array Value} {t : TypeId} (hb : Blk w b cs t) (hne : t ≠ 9) : v.ownBlock ≠ some b := by
  intro e
  unfold Row at h
  obtain ⟨_, h | ⟨g, cap, cur, hv, _, hc, _⟩⟩ := h
  · rw [h.1] at e; cases e
  · rw [hv] at e
    simp only [Value.ownBlock, Option.some.injEq] at e
    subst e
    rw [show w.heap[g]? = some (.cells cs t (0, 0)) from hb] at hc
    injection hc with hc
    injection hc with _ ht
    exact hne ht
theorem Row.setOther {w : World} {base : Nat} {v : Value} {xs : List ByteArray} (h : Row w base v xs) {a : Addr} (ha : v.ownBlock ≠ some a.block) (u : Value) : Row (w.setCell a u) base v xs := ownsRow_setCell_other h ha u
theorem Row.lt {w : World} {base : Nat} {v : Value} {xs : List ByteArray} (h : Row w base v xs) : ∀ k, v.ownBlock = some k → base ≤ k ∧ k < w.heap.size := World.ownsRow.lt h
/-- A row of no element is the nil slice, or one at a block. -/
theorem Row.form {w : World} {base : Nat} {v : Value} {xs : List ByteArray} (h : Row w base v xs) : ∃ A c, v = .slice A xs.length c ∧ Strs w A xs := by
  have h0 := h
  unfold Row at h0
  obtain ⟨_, h1 | ⟨g, cap, cur, hv, _, hc, _⟩⟩ := h0
  · exact ⟨none, 0, by rw [h1.1, h1.2], fun hn => absurd (List.length_eq_zero_iff.1 h1.2) hn⟩
  · subst hv
    exact ⟨_, _, rfl, Strs.ofOwn h⟩
theorem Row.strs {w : World} {base : Nat} {A : Option Addr} {n c : Nat} {xs : List ByteArray} (h : Row w base (.slice A n c) xs) : Strs w A xs := by
  obtain ⟨A', c', e, hs⟩ := h.form
  injection e with e1 _ _
  rw [e1]; exact hs
theorem Mine.grown {w : World} {L : List (Nat × Array Value × TypeId)} {W W' : World} {row : Option Nat} (h : Mine w L W) (hg : W.grownBy W' row) (hr : ∀ k, row = some k → w.heap.size ≤ k ∧ ∀ x ∈ L, x.1 ≠ k) : Mine w L W' :=
  ⟨h.low.grown hg h.low.size (fun k e => (hr k e).1), fun x hx => ⟨(h.own x hx).1, (hg.block x.1 (h.own x hx).2.lt (fun e => (hr _ e.symm).2 x hx rfl)).trans (h.own x hx).2⟩⟩
theorem Mine.allocO {w : World} {L : List (Nat × Array Value × TypeId)} {W : World} (h : Mine w L W) (o : Obj) : Mine w L (W.alloc o) := h.next ((Below.refl _ _).alloc (Nat.le_refl _) _)
theorem Mine.app {w : World} {L : List (Nat × Array Value × TypeId)} {W W' : World} {v : Value} {xs : List ByteArray} (h : Mine w L W) (hr : Row W w.heap.size v xs) (hg : W.grownBy W' v.ownBlock) (ht : ∀ x ∈ L, x.2.2 ≠ 9) : Mine w L W' :=
  h.grown hg (fun k e => ⟨(hr.lt k e).1, fun x hx e2 => hr.ne (h.own x hx).2 (ht x hx) (by rw [e, e2])⟩)
theorem Row.neOld {w W : World} {v : Value} {xs : List ByteArray} (h : Row W w.heap.size v xs) {b : Nat} (hb : b < w.heap.size) : v.ownBlock ≠ some b := fun e => by have := (h.lt b e).1; omega
theorem strInfo : ∃ i, Tryz.prog.info? 9 = some i ∧ i.zero = some (.string ⟨#[]⟩) ∧ i.size = 1 ∧ i.bytes = 16 := by
  have : (Tryz.prog.info? 9).map (fun i => (i.zero, i.size, i.bytes)) = some (some (.string ⟨#[]⟩), 1, 16) := by kernel_rfl
  exact info_parts this
section
variable {ops : Array Oper} {rest : List Oper} {o : Oper} {a : Act} {w : World} {Q : Exit → Act → World → Prop}
/-- append of one text, at a plain region. -/
theorem app_str (hgd : o.guard = none) (s x : Operand) (ho : o.op = .call { callee := .builtin .append, args := #[s, x], argTypes := #[50, 50] }) (base : Nat) (v : Value) (xs : List ByteArray) (hs : a.eval s = v)
    (hown : Row w base v xs) (g0 : Nat) (hx : a.eval x = .slice (some ⟨g0, 0, none⟩) 1 1) (t : ByteArray) (hc : w.heap[g0]? = some (.cells #[.string t] 9 (0, 0))) (hn : xs.length ≤ 1000000) (hbase : base ≤ w.heap.size)
    (h : ∀ g cap w', Row w' base (.slice (some ⟨g, 0, none⟩) (xs.length + 1) cap) (xs ++ [t]) → w.grownBy w' v.ownBlock → (v.ownBlock = some g ∨ g = w.heap.size) → g < w'.heap.size → wpList Tryz.prog ops Q rest (a.put o.dst (.slice (some ⟨g, 0, none⟩) (xs.length + 1) cap)) w') :
    wpList Tryz.prog ops Q (o :: rest) a w := by
  obtain ⟨i, hi, hz, hsz, hby⟩ := strInfo
  refine wpList_append_lies w hgd s x 50 ho base 9 i (.string ⟨#[]⟩) 1 16 Tryz.underlying50 hi hz hsz hby rfl (by omega) v xs.length (xs.map Value.string) hs hown ⟨g0, 0, none⟩ 1 1 [.string t] hx rfl
    (by have := World.news_of_block hc; simpa using this) (by simp [Value.oneCell']) (by omega) (by unfold maxLen; omega) (by omega) hbase _ rfl ?_
  intro g cap w' h1 h2 h3 h4
  refine h g cap w' ?_ h2 h3 h4
  unfold Row
  simpa using h1
end
end Go.Proofs.YtllhbcpbihhdnaaGreatDoor
end
section
set_option linter.unusedVariables false
set_option linter.unusedSimpArgs false
namespace Go.Proofs.YtllhbcpbihhdnaaGreatDoor
open Go.RowKit
/-- A slice of no text, with a block of its own. -/
theorem Row.lit0 (w : World) (base : Nat) (hb : base ≤ w.heap.size) : Row (w.alloc (.cells #[] 9)) base (.slice (some ⟨w.heap.size, 0, none⟩) 0 0) [] :=
  World.ownsRow_lit w #[] 0 hb (by decide) rfl
section
variable {ops : Array Oper} {rest : List Oper} {o : Oper} {a : Act} {w : World} {Q : Exit → Act → World → Prop}
/-- append of some texts that lie in memory. -/
theorem app_strs (hgd : o.guard = none) (s x : Operand) (ho : o.op = .call { callee := .builtin .append, args := #[s, x], argTypes := #[50, 50] }) (base : Nat) (v : Value) (xs : List ByteArray) (n : Nat) (hlen : xs.length = n) (hs : a.eval s = v)
    (hown : Row w base v xs) (A : Option Addr) (m c : Nat) (hx : a.eval x = .slice A m c) (t : List ByteArray) (htm : t.length = m) (hS : Strs w A t) (hm : 1 ≤ m) (hn : n + m ≤ 1000000) (hbase : base ≤ w.heap.size)
    (h : ∀ g cap w', Row w' base (.slice (some ⟨g, 0, none⟩) (n + m) cap) (xs ++ t) → w.grownBy w' v.ownBlock → (v.ownBlock = some g ∨ g = w.heap.size) → g < w'.heap.size → wpList Tryz.prog ops Q rest (a.put o.dst (.slice (some ⟨g, 0, none⟩) (n + m) cap)) w') :
    wpList Tryz.prog ops Q (o :: rest) a w := by
  obtain ⟨i, hi, hz, hsz, hby⟩ := strInfo
  subst hlen htm
  obtain ⟨b, off, rfl, hl, hc⟩ := hS (by intro e; rw [e] at hm; simp at hm)
  refine wpList_append_lies w hgd s x 50 ho base 9 i (.string ⟨#[]⟩) 1 16 Tryz.underlying50 hi hz hsz hby rfl (by omega) v xs.length (xs.map Value.string) hs hown ⟨b, off, none⟩ t.length c (t.map Value.string) hx (by simp)
    (fun j u hu => by
      rw [List.getElem?_map] at hu
      cases hj : t[j]? with
      | none => rw [hj] at hu; simp at hu
      | some q =>
        rw [hj] at hu
        simp only [Option.map_some, Option.some.injEq] at hu
        subst hu
        obtain ⟨hj1, hj2⟩ := List.getElem?_eq_some_iff.1 hj
        subst hj2
        rw [Addr.add_mid]
        exact hc j hj1)
    (fun u hu => by obtain ⟨q, _, rfl⟩ := List.mem_map.1 hu; rfl) (by omega) (by unfold maxLen; omega) (by omega) hbase _ rfl ?_
  intro g cap w' h1 h2 h3 h4
  refine h g cap w' ?_ h2 h3 h4
  unfold Row
  simpa using h1
/-- append of nothing. -/
theorem app_none (hgd : o.guard = none) (s x : Operand) (ho : o.op = .call { callee := .builtin .append, args := #[s, x], argTypes := #[50, 50] }) (B : Option Addr) (n k : Nat) (hnk : n ≤ k) (hs : a.eval s = .slice B n k)
    (A : Option Addr) (c : Nat) (hx : a.eval x = .slice A 0 c) (h : wpList Tryz.prog ops Q rest (a.put o.dst (.slice B n k)) w) :
    wpList Tryz.prog ops Q (o :: rest) a w := by
  refine wpList_plain hgd fun K hK => ?_
  obtain ⟨i, hi, hz, hsz, hby⟩ := strInfo
  have hsrc : Src Tryz.prog i.size 50 (.slice A 0 c) 0 [] w := by
    cases A with
    | none => exact Src.ofNil w Tryz.underlying50 c
    | some ad => exact Src.ofSlice w Tryz.underlying50 ad 0 c [] (by simp) (fun j u hu => by simp at hu) (fun u hu => by cases hu)
  have hr := run_append_nothing (P := Tryz.prog) w 50 50 o.type 9 i Tryz.underlying50 hi B n k hnk (.slice A 0 c) hsrc
  unfold Oper.wp execOp
  simp only [ho, resolve, invoke, builtin, Sem.run_bind, Sem.run_pure, Result.andThen_ok, List.map_toArray, List.map_cons, List.map_nil, hs, hx, hr]
  exact hK _ _ h
end
end Go.Proofs.YtllhbcpbihhdnaaGreatDoor
end
section
set_option linter.unusedVariables false
namespace Go.Proofs.YtllhbcpbihhdnaaGreatDoor
open Go.RowKit
structure Kp (w : World) (L : List (Nat × Array Value × TypeId)) (S : List (Option Addr × List ByteArray)) (W : World) : Prop where
  low : Below w.heap.size w W
  own : ∀ x ∈ L, Blk W x.1 x.2.1 x.2.2
  strs : ∀ x ∈ S, Strs W x.1 x.2
section
variable {w W W' : World} {L : List (Nat × Array Value × TypeId)} {S : List (Option Addr × List ByteArray)}
theorem Kp.start (w : World) : Kp w [] [] w := ⟨Below.refl _ _, fun _ h => (by cases h), fun _ h => (by cases h)⟩
theorem Kp.next (h : Kp w L S W) (k : Below W.heap.size W W') : Kp w L S W' := ⟨Below.next h.low k (Nat.le_refl _), fun x hx => (h.own x hx).below k, fun x hx => (h.strs x hx).next k⟩
theorem Kp.alloc (h : Kp w L S W) (o : Obj) : Kp w L S (W.alloc o) := h.next ((Below.refl _ _).alloc (Nat.le_refl _) _)
theorem Kp.drew (h : Kp w L S W) : Kp w L S W.drew := h.next (pw_below_drewN (Below.refl _ _) 1)
theorem Kp.blk (h : Kp w L S W) (cs : Array Value) (t : TypeId) : Kp w ((W.heap.size, cs, t) :: L) S (W.alloc (.cells cs t)) :=
  ⟨(h.alloc _).low, fun x hx => by
    rcases List.mem_cons.1 hx with rfl | hx
    · exact Blk.new _ _
    · exact (h.alloc _).own x hx, (h.alloc _).strs⟩
theorem Kp.str (h : Kp w L S W) {A : Option Addr} {xs : List ByteArray} (hs : Strs W A xs) : Kp w L ((A, xs) :: S) W := ⟨h.low, h.own, fun x hx => by
  rcases List.mem_cons.1 hx with rfl | hx
  · exact hs
  · exact h.strs x hx⟩
theorem Kp.textm (h : Kp w L S W) {A : Option Addr} {xs : List ByteArray} (hm : (A, xs) ∈ S) : Strs W A xs := h.strs _ hm
/-- A block of texts reads as them. -/
theorem Strs.ofBlk {b : Nat} {xs : List ByteArray} {t : TypeId} (h : Blk W b (xs.map Value.string).toArray t) : Strs W (some ⟨b, 0, none⟩) xs := fun hn =>
  ⟨b, 0, rfl, h.lt, fun j hj => by
    rw [Nat.zero_add]
    exact h.cell j _ (by simp [hj])⟩
theorem Strs.new (W : World) (xs : List ByteArray) (t : TypeId) : Strs (W.alloc (.cells (xs.map Value.string).toArray t)) (some ⟨W.heap.size, 0, none⟩) xs := Strs.ofBlk (Blk.new _ _)
theorem Kp.blk' (h : Kp w L S W) (cs : Array Value) (t : TypeId) (n : Nat) (hn : W.heap.size = n) : Kp w ((n, cs, t) :: L) S (W.alloc (.cells cs t)) := hn ▸ h.blk cs t
theorem Kp.texts' (h : Kp w L S W) (xs : List ByteArray) (t : TypeId) (n : Nat) (hn : W.heap.size = n) : Kp w L ((some ⟨n, 0, none⟩, xs) :: S) (W.alloc (.cells (xs.map Value.string).toArray t)) := hn ▸ (h.alloc _).str (Strs.new W xs t)
theorem Kp.texts (h : Kp w L S W) (xs : List ByteArray) (t : TypeId) : Kp w L ((some ⟨W.heap.size, 0, none⟩, xs) :: S) (W.alloc (.cells (xs.map Value.string).toArray t)) := (h.alloc _).str (Strs.new W xs t)
end
end Go.Proofs.YtllhbcpbihhdnaaGreatDoor
end
section
set_option linter.unusedVariables false
set_option linter.unusedSimpArgs false
namespace Go.Proofs.YtllhbcpbihhdnaaGreatDoor
open Go.RowKit
section
variable {ops : Array Oper} {rest : List Oper} {o : Oper} {a : Act} {w : World} {Q : Exit → Act → World → Prop}
theorem Row.cap {w : World} {base : Nat} {A : Option Addr} {n c : Nat} {xs : List ByteArray} (h : Row w base (.slice A n c) xs) : n ≤ c := by
  unfold Row at h
  rcases h.2 with ⟨h1, h2⟩ | ⟨g, cap, cur, hv, _, _, hnc, _⟩
  · injection h1 with _ e1 e2; omega
  · injection hv with _ e1 e2; omega
/-- append of any texts that lie in memory, to a row that was made behind W0. -/
theorem app_copy (hgd : o.guard = none) (s x : Operand) (ho : o.op = .call { callee := .builtin .append, args := #[s, x], argTypes := #[50, 50] }) {W0 : World} (hlow : Below W0.heap.size W0 w) (B : Option Addr) (n k : Nat) (xs : List ByteArray) (hlen : xs.length = n) (hs : a.eval s = .slice B n k)
    (hown : Row w W0.heap.size (.slice B n k) xs) (A : Option Addr) (m c : Nat) (hx : a.eval x = .slice A m c) (t : List ByteArray) (htm : t.length = m) (hS : Strs w A t) (hn : n + m ≤ 1000000) (N : Nat) (hN : n + m = N) (ys : List ByteArray) (hys : xs ++ t = ys)
    (h : ∀ A' c' w', Row w' W0.heap.size (.slice A' N c') ys → Strs w' A' ys → Below W0.heap.size W0 w' → wpList Tryz.prog ops Q rest (a.put o.dst (.slice A' N c')) w') :
    wpList Tryz.prog ops Q (o :: rest) a w := by
  subst hN hys
  by_cases hm : m = 0
  · subst hm
    have e : t = [] := List.length_eq_zero_iff.1 htm
    subst e
    refine app_none hgd s x ho B n k hown.cap hs A c hx ?_
    have := h B k w (by simpa using hown) (by simpa using hown.strs) hlow
    simpa using this
  · refine app_strs hgd s x ho W0.heap.size _ xs n hlen hs hown A m c hx t htm hS (by omega) hn hlow.size ?_
    intro g cap w' h1 h2 h3 h4
    exact h (some ⟨g, 0, none⟩) cap w' h1 h1.strs (hlow.grown h2 hlow.size (fun k e => (hown.lt k e).1))
theorem Row.lit1 {W0 w : World} (h : Below W0.heap.size W0 w) : Row (w.alloc (.cells #[] 9)) W0.heap.size (.slice (some ⟨w.heap.size, 0, none⟩) 0 0) [] := Row.lit0 w W0.heap.size h.size
theorem Row.lit2 {W0 w : World} (h : Below W0.heap.size W0 w) (g : Nat) (hg : w.heap.size = g) : Row (w.alloc (.cells #[] 9)) W0.heap.size (.slice (some ⟨g, 0, none⟩) 0 0) [] := hg ▸ Row.lit0 w W0.heap.size h.size
end
end Go.Proofs.YtllhbcpbihhdnaaGreatDoor
end
section
set_option linter.unusedVariables false
set_option linter.unusedSimpArgs false
namespace Go.Proofs.YtllhbcpbihhdnaaGreatDoor
open Go.RowKit
set_option maxRecDepth 100000
set_option maxHeartbeats 2000000 in
theorem add_no (key val : ByteArray) (bl : Nat) (w : World) : Calls Tryz.prog 71 #[.bool false, .string key, .string val, .pointer (some ⟨bl, 0, none⟩)] w fun e w' => (∃ v, e = .returned v) ∧ w' = w := by
  go_enter Tryz.func71, Tryz.ntmps71
  go_wp2
  go_end0
  exact ⟨⟨_, rfl⟩, rfl⟩
set_option maxHeartbeats 4000000 in
theorem add_yes (key val : ByteArray) (bl base : Nat) (v : Value) (xs : List ByteArray) (w : World) (hB : Blk w bl #[v] 50) (hR : Row w base v xs) (hn : xs.length ≤ 1000) (hbase : base ≤ w.heap.size) (hbl : bl < base) (hk : key.size ≤ 1000000) (hv : val.size ≤ 1000000) :
    Calls Tryz.prog 71 #[.bool true, .string key, .string val, .pointer (some ⟨bl, 0, none⟩)] w fun e w' => (∃ v, e = .returned v) ∧ ∃ g cap, Blk w' bl #[.slice (some ⟨g, 0, none⟩) (xs.length + 1) cap] 50 ∧ Row w' base (.slice (some ⟨g, 0, none⟩) (xs.length + 1) cap) (xs ++ [key ++ ⟨#[61]⟩ ++ val]) ∧ Chg (fun k => k = bl ∨ base ≤ k) w w' := by
  have z0 := hB.cell 0 _ rfl
  have zl := hB.lt
  have hA1 : ¬ 9223372036854775807 < key.size + 1 := by omega
  have hA2 : ¬ 9223372036854775807 < key.size + 1 + val.size := by omega
  go_enter Tryz.func71, Tryz.ntmps71
  go_wp2_with ((at_builtin; refine app_str rfl _ _ rfl base _ _ (by rfl) (hR.alloc _) w.heap.size (by rfl) (key ++ ⟨#[61]⟩ ++ val) (heap_alloc_new _ _) (by omega) (by simp; omega) ?_; intro g cap w4 hr4 hg4 _ _; have hne := Aside.mk (fun k (hk : k < base) => show v.ownBlock ≠ some k from fun e_ => by have := (hR.lt k e_).1; omega); have hB4 := Aside.mk ((hg4.block bl (by simp; omega) (fun e_ => hne.out bl hbl e_.symm)).trans (hB.old _)); have hC4 := Aside.mk (((Chg.ofBelow ((Below.refl _ w).alloc (Nat.le_refl _) _) (fun k => k = bl ∨ base ≤ k))).grown hg4 (fun k e_ _ => .inr (hR.lt k e_).1)); have R4 := Aside.mk hr4; clear hr4 hg4 z0 zl; have z0 := Blk.cell hB4.out 0 _ rfl; have y0 := Blk.free hB4.out 0; have zl := Blk.lt hB4.out))
  go_end0
  refine ⟨⟨_, rfl⟩, g, cap, by simpa using Blk.set hB4.out 0 _, R4.out.setOther (fun e_ => by have := (R4.out.lt bl e_).1; omega) _, ?_⟩
  exact hC4.out.setCell (fun _ => .inl rfl) _
end Go.Proofs.YtllhbcpbihhdnaaGreatDoor
end
section
set_option linter.unusedVariables false
set_option linter.unusedSimpArgs false
namespace Go.Proofs.YtllhbcpbihhdnaaGreatDoor
open Go.RowKit
set_option maxRecDepth 100000
def joinB (xs : List ByteArray) (sep : ByteArray) : ByteArray := ⟨(Lib.join (xs.map (·.data.toList)) sep.data.toList).toArray⟩
def flatLen (xs : List ByteArray) : Nat := (xs.map (·.size)).sum
theorem join_len (sep : List UInt8) (xs : List ByteArray) : (Lib.join (xs.map (·.data.toList)) sep).length ≤ flatLen xs + xs.length * sep.length := by
  unfold Lib.join flatLen
  induction xs with
  | nil => simp [List.intercalate]
  | cons x r ih =>
    cases r with
    | nil => simp [List.intercalate]
    | cons y r =>
      simp only [List.map_cons, List.intercalate, List.intersperse, List.flatten_cons, List.length_append, List.sum_cons, List.length_cons] at ih ⊢
      simp only [ByteArray.size] at *
      have h1 : x.data.toList.length = x.data.size := by simp
      have h2 : (r.length + 1 + 1) * sep.length = (r.length + 1) * sep.length + sep.length := by rw [Nat.add_mul, Nat.one_mul]
      omega
theorem Row.caple {w : World} {base : Nat} {A : Option Addr} {n c : Nat} {xs : List ByteArray} (h : Row w base (.slice A n c) xs) : n ≤ c := h.cap
theorem join_row (base : Nat) (v : Value) (xs : List ByteArray) (sep : ByteArray) (w : World) (h : Row w base v xs) (h1 : xs.length ≤ 1000000) (h2 : flatLen xs ≤ 1000000000) (h3 : sep.size ≤ 1000) :
    Calls Tryz.prog 75 #[v, .string sep] w fun e w' => e = .returned (.string (joinB xs sep)) ∧ Below w.heap.size w w' := by
  obtain ⟨A, c, rfl, hs⟩ := h.form
  by_cases hn : xs = []
  · subst hn
    exact (Tryz.strings_Join_none A c sep w).mono fun _ _ ⟨h1, h2⟩ => ⟨h1, h2 ▸ Below.refl _ _⟩
  · obtain ⟨b, o, rfl, hb, hc⟩ := hs hn
    have hl := join_len sep.data.toList xs
    have hsl : sep.data.toList.length ≤ 1000 := by simpa using h3
    have : xs.length * sep.data.toList.length ≤ 1000000 * 1000 := Nat.mul_le_mul h1 hsl
    exact Tryz.strings_Join b o c xs sep w (fun j x hj => by
      obtain ⟨hlt, rfl⟩ := List.getElem?_eq_some_iff.1 hj
      exact hc j hlt) hb (by omega) h.cap (by omega)
namespace Pm
def word (key val : ByteArray) : ByteArray := key ++ ⟨#[61]⟩ ++ val
def more (has : Bool) (key val : ByteArray) (xs : List ByteArray) : List ByteArray := if has then xs ++ [word key val] else xs
theorem more_len (has : Bool) (key val : ByteArray) (xs : List ByteArray) (k : Nat) (h : xs.length ≤ k) : (more has key val xs).length ≤ k + 1 := by unfold more; split <;> first | (simp; omega) | omega
theorem more_flat (has : Bool) (key val : ByteArray) (xs : List ByteArray) (k m : Nat) (h : flatLen xs ≤ k) (h2 : key.size + val.size ≤ m) : flatLen (more has key val xs) ≤ k + m + 1 := by
  have h61 : (⟨#[61]⟩ : ByteArray).size = 1 := rfl
  unfold more word
  split
  · simp only [flatLen, List.map_append, List.sum_append, List.map_cons, List.map_nil, List.sum_cons, List.sum_nil] at h ⊢
    simp
    omega
  · omega
end Pm
/-- In PrintMail: the box of what is said, the cell of the row of words, the row. -/
structure PmS (w : World) (mb bl : Nat) (MC : Array Value) (MT : TypeId) (xs : List ByteArray) (W : World) : Prop where
  low : Below w.heap.size w W
  hb : w.heap.size ≤ mb
  lt : mb < bl
  box : Blk W mb MC MT
  out : ∃ v, Blk W bl #[v] 50 ∧ Row W (bl + 1) v xs
theorem PmS.next {w : World} {mb bl : Nat} {MC : Array Value} {MT : TypeId} {xs : List ByteArray} {W W' : World} (h : PmS w mb bl MC MT xs W) (k : Below W.heap.size W W') : PmS w mb bl MC MT xs W' := by
  obtain ⟨v, h1, h2⟩ := h.out
  exact ⟨Below.next h.low k (Nat.le_refl _), h.hb, h.lt, h.box.below k, v, h1.below k, h2.next k⟩
theorem PmS.drew {w : World} {mb bl : Nat} {MC : Array Value} {MT : TypeId} {xs : List ByteArray} {W : World} (h : PmS w mb bl MC MT xs W) : PmS w mb bl MC MT xs W.drew := h.next (pw_below_drewN (Below.refl _ _) 1)
theorem add_pm {w : World} {mb bl : Nat} {MC : Array Value} {MT : TypeId} {xs : List ByteArray} {W : World} (has : Bool) {key val : ByteArray} {n : Nat} (hsz : key.size + val.size ≤ n) (hn1 : n ≤ 1000000) (hn : xs.length ≤ 1000) (h : PmS w mb bl MC MT xs W) :
    Calls Tryz.prog 71 #[.bool has, .string key, .string val, .pointer (some ⟨bl, 0, none⟩)] W fun e w' => (∃ v, e = .returned v) ∧ PmS w mb bl MC MT (Pm.more has key val xs) w' := by
  cases has with
  | false => exact (add_no key val bl W).mono fun _ _ ⟨h1, h2⟩ => ⟨h1, h2 ▸ h⟩
  | true =>
    obtain ⟨v, h1, h2⟩ := h.out
    have hlt := h1.lt
    have hlt2 := h.lt
    have hlb := h.hb
    exact (add_yes key val bl (bl + 1) v xs W h1 h2 hn (by omega) (by omega) (by omega) (by omega)).mono fun _ _ ⟨e1, g, cap, h3, h4, h5⟩ =>
      ⟨e1, h5.below h.low (fun k hk => by omega) h.low.size, h.hb, h.lt, h.box.chg h5 (by omega), _, h3, h4⟩
end Go.Proofs.YtllhbcpbihhdnaaGreatDoor
end
section
set_option linter.unusedVariables false
set_option linter.unusedSimpArgs false
namespace DtCal
open Go.Lib
theorem dg_val (n : Int) : ((dg n).toNat : Int) = 48 + n % 10 := by
  unfold dg
  rw [UInt8.toNat_ofNat']
  omega
theorem digit_dg (n : Int) : digit (dg n) = true := by
  have := dg_val n
  unfold digit
  simp only [Bool.and_eq_true, decide_eq_true_eq]
  omega
theorem num4c (a b c d x : UInt8) (r : List UInt8) (bad : Bool) : num (a :: b :: c :: d :: x :: r) bad 4 [x] = (dec [a, b, c, d], r, bad || [a, b, c, d].any fun c => !digit c) := by
  unfold num
  rw [if_neg (by simp)]
  simp [List.isPrefixOf]
theorem num2c (a b x : UInt8) (r : List UInt8) (bad : Bool) : num (a :: b :: x :: r) bad 2 [x] = (dec [a, b], r, bad || [a, b].any fun c => !digit c) := by
  unfold num
  rw [if_neg (by simp)]
  simp [List.isPrefixOf]
theorem num2e (a b : UInt8) (r : List UInt8) (bad : Bool) : num (a :: b :: r) bad 2 [] = (dec [a, b], r, bad || [a, b].any fun c => !digit c) := by
  unfold num
  rw [if_neg (by simp)]
  simp [List.isPrefixOf]
theorem dec2 (n : Int) (h0 : 0 ≤ n) (h1 : n ≤ 99) : dec [dg (n / 10), dg n] = n := by
  have a := dg_val (n / 10)
  have b := dg_val n
  simp only [dec, List.foldl_cons, List.foldl_nil]
  omega
theorem dec4 (n : Int) (h0 : 0 ≤ n) (h1 : n ≤ 9999) : dec [dg (n / 1000), dg (n / 100), dg (n / 10), dg n] = n := by
  have a := dg_val (n / 1000)
  have b := dg_val (n / 100)
  have c := dg_val (n / 10)
  have d := dg_val n
  simp only [dec, List.foldl_cons, List.foldl_nil]
  omega
/-- The first nineteen signs of a time's text, and what stands behind. -/
def headOf (p : Int × Int × Int) (s : Int) (z : List UInt8) : List UInt8 :=
  dg (p.1 / 1000) :: dg (p.1 / 100) :: dg (p.1 / 10) :: dg p.1 :: 45 :: dg (p.2.1 / 10) :: dg p.2.1 :: 45 :: dg (p.2.2 / 10) :: dg p.2.2 :: 84 ::
    dg (s / 3600 / 10) :: dg (s / 3600) :: 58 :: dg (s / 60 % 60 / 10) :: dg (s / 60 % 60) :: 58 :: dg (s % 60 / 10) :: dg (s % 60) :: z
theorem text_head (t : Int) : text t = headOf (ofD (t / 86400)) (t % 86400) [90] := rfl
theorem shape_head (p : Int × Int × Int) (s : Int) (z : List UInt8) (h1 : 0 ≤ p.1 ∧ p.1 ≤ 9999) (h2 : 0 ≤ p.2.1 ∧ p.2.1 ≤ 99) (h3 : 0 ≤ p.2.2 ∧ p.2.2 ≤ 99) (h4 : 0 ≤ s ∧ s < 86400) :
    shape (headOf p s z) = ((p.1, p.2.1, p.2.2), (s / 3600, s / 60 % 60, s % 60), zone z false) := by
  unfold shape headOf
  simp only [num4c, num2c, num2e, List.any_cons, List.any_nil, digit_dg, Bool.not_true, Bool.or_false, Bool.false_or]
  rw [dec4 _ h1.1 h1.2, dec2 _ h2.1 h2.2, dec2 _ h3.1 h3.2, dec2 _ (by omega) (by omega), dec2 _ (by omega) (by omega), dec2 _ (by omega) (by omega)]
theorem zone_z : zone [90] false = (0, 0, 0, false) := by decide
theorem zone_sign (c : UInt8) (sg h m : Int) (hc : (c = 43 ∧ sg = -1) ∨ (c = 45 ∧ sg = 1)) (h0 : 0 ≤ h ∧ h ≤ 99) (m0 : 0 ≤ m ∧ m ≤ 99) :
    zone (c :: dg (h / 10) :: dg h :: 58 :: dg (m / 10) :: [dg m]) false = (sg, h, m, false) := by
  unfold zone
  rcases hc with ⟨rfl, rfl⟩ | ⟨rfl, rfl⟩ <;> simp [List.isPrefixOf, num2c, num2e, digit_dg, dec2 _ h0.1 h0.2, dec2 _ m0.1 m0.2]
theorem exists_date (n : Int) (h0 : 0 ≤ n) (h1 : n ≤ 2932896) : ∃ p, IsDate n p := by
  -- the year: by going up
  have up : ∀ k : Nat, ∀ y : Int, 1970 ≤ y → y ≤ 9999 → (9999 - y).toNat ≤ k → dby y - 719162 ≤ n → ∃ y', 1970 ≤ y' ∧ y' ≤ 9999 ∧ dby y' - 719162 ≤ n ∧ n < dby (y' + 1) - 719162 := by
    intro k
    induction k with
    | zero =>
      intro y a b c d
      obtain rfl : y = 9999 := by omega
      exact ⟨9999, by omega, by omega, d, by have : dby (9999 + 1) = 3652059 := by decide
                                             omega⟩
    | succ k ih =>
      intro y a b c d
      by_cases h : n < dby (y + 1) - 719162
      · exact ⟨y, a, b, d, h⟩
      · have hy : y < 9999 := by
          rcases Int.lt_or_le y 9999 with h' | h'
          · exact h'
          · obtain rfl : y = 9999 := by omega
            have : dby (9999 + 1) = 3652059 := by decide
            omega
        exact ih (y + 1) (by omega) (by omega) (by omega) (by omega)
  obtain ⟨y, a, b, c, d⟩ := up 9000 1970 (by omega) (by omega) (by omega) (by have : dby 1970 = 719162 := by decide
                                                                              omega)
  have ys := dby_succ y (by omega)
  have hm : ∀ k : Nat, k ≤ 12 → cum y k ≤ n - (dby y - 719162) ∨ ∃ m : Nat, m < k ∧ cum y m ≤ n - (dby y - 719162) ∧ n - (dby y - 719162) < cum y (m + 1) := by
    intro k
    induction k with
    | zero => intro _; left; simp [cum]; omega
    | succ k ih =>
      intro hk
      rcases ih (by omega) with h | ⟨m, hm, h⟩
      · by_cases h' : cum y (k + 1) ≤ n - (dby y - 719162)
        · exact .inl h'
        · exact .inr ⟨k, by omega, h, by omega⟩
      · exact .inr ⟨m, by omega, h⟩
  rcases hm 12 (by omega) with h | ⟨m, hm, h1, h2⟩
  · have := (cum_all y).2.2.2.2.2.2.2.2.2.2.2.2
    omega
  · have hs : cum y (m + 1) = cum y m + len y (m + 1) := rfl
    have hr : right y (m + 1) (n - (dby y - 719162) - cum y m + 1) = true := right_iff.2 ⟨a, b, by omega, by omega, by omega⟩
    refine ⟨(y, m + 1, n - (dby y - 719162) - cum y m + 1), hr, ?_⟩
    rw [days_val hr]
    have e : ((m : Int) + 1).toNat - 1 = m := by omega
    simp only [e]
    omega
theorem ofD_is (n : Int) (h0 : 0 ≤ n) (h1 : n ≤ 2932896) : IsDate n (ofD n) := by
  obtain ⟨p, hp⟩ := exists_date n h0 h1
  rw [ofD_eq hp]
  exact hp
theorem date_bounds {n : Int} {p : Int × Int × Int} (h : IsDate n p) : (1970 ≤ p.1 ∧ p.1 ≤ 9999) ∧ (1 ≤ p.2.1 ∧ p.2.1 ≤ 12) ∧ (1 ≤ p.2.2 ∧ p.2.2 ≤ 31) := by
  have a := right_iff.1 h.1
  have b := right_month h.1
  have c := len_bd p.1 p.2.1
  omega
theorem parse_head (t : Int) (h0 : 0 ≤ t) (h1 : t < 253402300800) (z : List UInt8) (sg zh zm : Int) (hz : zone z false = (sg, zh, zm, false)) (b1 : 0 ≤ zh ∧ zh ≤ 23) (b2 : 0 ≤ zm ∧ zm ≤ 59) :
    parse (headOf (ofD (t / 86400)) (t % 86400) z) = if t + sg * (zh * 3600 + zm * 60) < 0 ∨ t + sg * (zh * 3600 + zm * 60) ≥ 253402300800 then (0, 1) else (t + sg * (zh * 3600 + zm * 60), 0) := by
  have hd := ofD_is (t / 86400) (by omega) (by omega)
  have hb := date_bounds hd
  unfold parse
  rw [shape_head _ _ _ (by omega) (by omega) (by omega) (by omega), hz]
  simp only [parse2]
  have e1 : (days (ofD (t / 86400)).1 (ofD (t / 86400)).2.1 (ofD (t / 86400)).2.2).1 = t / 86400 := hd.2
  have e2 : (days (ofD (t / 86400)).1 (ofD (t / 86400)).2.1 (ofD (t / 86400)).2.2).2 = 0 := by rw [days_val hd.1]
  rw [e1, e2]
  have e3 : time (t / 86400) (t % 86400 / 3600) (t % 86400 / 60 % 60) (t % 86400 % 60) (sg, zh, zm, false) = t + sg * (zh * 3600 + zm * 60) := by
    unfold time
    simp only
    generalize sg * (zh * 3600 + zm * 60) = q
    omega
  rw [e3]
  simp only [if_neg (show ¬ (false = true) by decide)]
  by_cases hc : t + sg * (zh * 3600 + zm * 60) < 0 ∨ t + sg * (zh * 3600 + zm * 60) ≥ 253402300800
  · rw [if_pos hc, if_pos (by omega)]
  · rw [if_neg hc, if_neg (by omega)]
theorem parse_text (t : Int) (h0 : 0 ≤ t) (h1 : t < 253402300800) : parse (text t) = (t, 0) := by
  rw [text_head, parse_head t h0 h1 [90] 0 0 0 zone_z (by omega) (by omega)]
  simp only [Int.zero_mul, Int.add_zero]
  rw [if_neg (by omega)]
theorem parse_range {s : List UInt8} (h : (parse s).2 = 0) : 0 ≤ (parse s).1 ∧ (parse s).1 < 253402300800 := by
  unfold parse parse2 at h ⊢
  simp only at h ⊢
  split at h
  · simp at h
  · split at h
    · simp at h
    · rename_i h1 h2
      rw [if_neg h1, if_neg h2]
      simp only
      omega
theorem parse_err (s : List UInt8) : (parse s).2 = 0 ∨ (parse s).2 = 1 ∨ (parse s).2 = 2 := by
  unfold parse parse2
  simp only
  split
  · simp
  · split <;> simp
end DtCal
namespace DtCal
open Go
theorem dg_lt (a b : Int) : (dg a < dg b) ↔ a % 10 < b % 10 := by
  have x := dg_val a
  have y := dg_val b
  rw [UInt8.lt_iff_toNat_lt]
  omega
theorem dg_eq (a b : Int) : (dg a = dg b) ↔ a % 10 = b % 10 := by
  have x := dg_val a
  have y := dg_val b
  rw [← UInt8.toNat_inj]
  omega
theorem less_same (c : UInt8) (r r' : List UInt8) : Op.bytesLess (c :: r) (c :: r') = Op.bytesLess r r' := by
  simp [Op.bytesLess]
theorem less_pair (a b : Int) (r r' : List UInt8) : Op.bytesLess (dg (a / 10) :: dg a :: r) (dg (b / 10) :: dg b :: r') = (decide (a % 100 < b % 100) || (decide (a % 100 = b % 100) && Op.bytesLess r r')) := by
  simp only [Op.bytesLess]
  rw [Bool.eq_iff_iff]
  simp only [Bool.or_eq_true, Bool.and_eq_true, decide_eq_true_eq, beq_iff_eq, dg_lt, dg_eq]
  constructor
  · rintro (h | ⟨h, h' | ⟨h', h''⟩⟩)
    · left; omega
    · left; omega
    · right; exact ⟨by omega, h''⟩
  · rintro (h | ⟨h, h'⟩)
    · by_cases e : a / 10 % 10 = b / 10 % 10
      · right; exact ⟨e, .inl (by omega)⟩
      · left; omega
    · right; exact ⟨by omega, .inr ⟨by omega, h'⟩⟩
theorem less_head (p p' : Int × Int × Int) (s s' : Int) (h1 : 0 ≤ p.1 ∧ p.1 ≤ 9999) (h1' : 0 ≤ p'.1 ∧ p'.1 ≤ 9999) (h2 : 0 ≤ p.2.1 ∧ p.2.1 ≤ 99) (h2' : 0 ≤ p'.2.1 ∧ p'.2.1 ≤ 99) (h3 : 0 ≤ p.2.2 ∧ p.2.2 ≤ 99) (h3' : 0 ≤ p'.2.2 ∧ p'.2.2 ≤ 99)
    (h4 : 0 ≤ s ∧ s < 86400) (h4' : 0 ≤ s' ∧ s' < 86400)
    (h : p.1 < p'.1 ∨ p.1 = p'.1 ∧ (p.2.1 < p'.2.1 ∨ p.2.1 = p'.2.1 ∧ (p.2.2 < p'.2.2 ∨ p.2.2 = p'.2.2 ∧ s < s'))) :
    Op.bytesLess (headOf p s [90]) (headOf p' s' [90]) = true := by
  have e1 : p.1 / 1000 = p.1 / 100 / 10 := by omega
  have e1' : p'.1 / 1000 = p'.1 / 100 / 10 := by omega
  unfold headOf
  rw [e1, e1', less_pair, less_pair, less_same, less_pair, less_same, less_pair, less_same, less_pair, less_same, less_pair, less_same, less_pair]
  simp only [Bool.or_eq_true, Bool.and_eq_true, decide_eq_true_eq]
  omega
theorem date_lt {n n' : Int} {p p' : Int × Int × Int} (h : IsDate n p) (h' : IsDate n' p') (hn : n < n') : p.1 < p'.1 ∨ p.1 = p'.1 ∧ (p.2.1 < p'.2.1 ∨ p.2.1 = p'.2.1 ∧ p.2.2 < p'.2.2) := by
  obtain ⟨y, m, d⟩ := p
  obtain ⟨y', m', d'⟩ := p'
  obtain ⟨hr, hv⟩ := h
  obtain ⟨hr', hv'⟩ := h'
  simp only at hr hv hr' hv' ⊢
  rw [days_val hr] at hv
  rw [days_val hr'] at hv'
  simp only at hv hv'
  have a := in_year hr
  have a' := in_year hr'
  have r := right_iff.1 hr
  have r' := right_iff.1 hr'
  rcases Int.lt_trichotomy y y' with hlt | rfl | hgt
  · exact .inl hlt
  · right
    refine ⟨rfl, ?_⟩
    rcases Int.lt_trichotomy m m' with hlt | rfl | hgt
    · exact .inl hlt
    · exact .inr ⟨rfl, by omega⟩
    · exfalso
      have := cum_mono y m'.toNat (m.toNat - 1) (by omega)
      omega
  · exfalso
    have := dby_mono (y' + 1) y (by omega) (by omega)
    have := dby_succ y' (by omega)
    omega
theorem text_lt {t t' : Int} (h0 : 0 ≤ t) (h : t < t') (h1 : t' < 253402300800) : Op.bytesLess (text t) (text t') = true := by
  have hd := ofD_is (t / 86400) (by omega) (by omega)
  have hd' := ofD_is (t' / 86400) (by omega) (by omega)
  have b := date_bounds hd
  have b' := date_bounds hd'
  rw [text_head, text_head]
  refine less_head _ _ _ _ (by omega) (by omega) (by omega) (by omega) (by omega) (by omega) (by omega) (by omega) ?_
  by_cases e : t / 86400 = t' / 86400
  · rw [e]
    omega
  · have := date_lt hd hd' (by omega)
    omega
/-- The day behind a day. -/
theorem next_day {n : Int} {y m d : Int} (h : IsDate n (y, m, d)) (hn : n ≤ 2932895) :
    IsDate (n + 1) (if d < len y m then (y, m, d + 1) else if m < 12 then (y, m + 1, 1) else (y + 1, 1, 1)) := by
  obtain ⟨hr, hv⟩ := h
  simp only at hr hv
  have hv2 := hv
  rw [days_val hr] at hv2
  simp only at hv2
  have r := right_iff.1 hr
  have hm := right_month hr
  obtain ⟨k, rfl⟩ : ∃ k : Nat, m = k + 1 := ⟨m.toNat - 1, by omega⟩
  have e : ((k : Int) + 1).toNat - 1 = k := by omega
  rw [e] at hv2
  have hs : cum y (k + 1) = cum y k + len y (k + 1) := rfl
  split
  · rename_i hd
    have hr2 : right y (k + 1) (d + 1) = true := right_iff.2 ⟨by omega, by omega, by omega, by omega, by omega⟩
    refine ⟨hr2, ?_⟩
    simp only
    rw [days_val hr2, e]
    simp only
    omega
  · split
    · rename_i hd hm2
      have := len_lo y (k + 1 + 1) (by omega) (by omega)
      have hr2 : right y (k + 1 + 1) 1 = true := right_iff.2 ⟨by omega, by omega, by omega, by omega, by omega⟩
      refine ⟨hr2, ?_⟩
      simp only
      rw [days_val hr2, show ((k : Int) + 1 + 1).toNat - 1 = k + 1 by omega]
      simp only
      omega
    · rename_i hd hm2
      obtain rfl : k = 11 := by omega
      have h12 : cum y (11 + 1) = 365 + lp y := (cum_all y).2.2.2.2.2.2.2.2.2.2.2.2
      have hyr := dby_succ y (by omega)
      have hs12 : cum y 12 = cum y 11 + len y (11 + 1) := rfl
      have hy : y < 9999 := by
        rcases Int.lt_or_le y 9999 with h' | h'
        · exact h'
        · obtain rfl : y = 9999 := by omega
          have e9 : dby (9999 + 1) = 3652059 := by decide
          omega
      have := len_lo (y + 1) 1 (by omega) (by omega)
      have hr2 : right (y + 1) 1 1 = true := right_iff.2 ⟨by omega, by omega, by omega, by omega, by omega⟩
      refine ⟨hr2, ?_⟩
      simp only
      rw [days_val hr2]
      simp only [show (1 : Int).toNat - 1 = 0 from rfl, (cum_all (y + 1)).1]
      omega
end DtCal
end
section
set_option linter.unusedVariables false
set_option linter.unusedSimpArgs false
namespace Go.Proofs.YtllhbcpbihhdnaaGreatDoor
open Go.RowKit
section
variable {ops : Array Oper} {o : Oper} {a : Act} {w : World} {Q : Exit → Act → World → Prop} {K : Act → World → Prop} {E : Prop}
theorem app_step (hgd : o.guard = none) (s x : Operand) (ho : o.op = .call { callee := .builtin .append, args := #[s, x], argTypes := #[50, 50] }) (base : Nat) (v : Value) (xs : List ByteArray) (hs : a.eval s = v)
    (hown : Row w base v xs) (g0 : Nat) (hx : a.eval x = .slice (some ⟨g0, 0, none⟩) 1 1) (t : ByteArray) (hc : w.heap[g0]? = some (.cells #[.string t] 9 (0, 0))) (hn : xs.length ≤ 1000000) (hbase : base ≤ w.heap.size)
    (h : ∀ g cap w', Row w' base (.slice (some ⟨g, 0, none⟩) (xs.length + 1) cap) (xs ++ [t]) → w.grownBy w' v.ownBlock → (v.ownBlock = some g ∨ g = w.heap.size) → g < w'.heap.size → K (a.put o.dst (.slice (some ⟨g, 0, none⟩) (xs.length + 1) cap)) w') :
    if Region.wanted o (yielded ops a.tmps) = true then Oper.wp Tryz.prog o a w K Q else E := by
  obtain ⟨i, hi, hz, hsz, hby⟩ := strInfo
  refine step_append_lies w hgd s x 50 ho base 9 i (.string ⟨#[]⟩) 1 16 Tryz.underlying50 hi hz hsz hby rfl (by omega) v xs.length (xs.map Value.string) hs hown ⟨g0, 0, none⟩ 1 1 [.string t] hx rfl
    (by have := World.news_of_block hc; simpa using this) (by simp [Value.oneCell']) (by omega) (by unfold maxLen; omega) (by omega) hbase _ rfl ?_
  intro g cap w' h1 h2 h3 h4
  refine h g cap w' ?_ h2 h3 h4
  unfold Row
  simpa using h1
theorem app_step_n (hgd : o.guard = none) (s x : Operand) (ho : o.op = .call { callee := .builtin .append, args := #[s, x], argTypes := #[50, 50] }) (base : Nat) (v : Value) (xs : List ByteArray) (n : Nat) (hlen : xs.length = n) (hs : a.eval s = v)
    (hown : Row w base v xs) (g0 : Nat) (hx : a.eval x = .slice (some ⟨g0, 0, none⟩) 1 1) (t : ByteArray) (hc : w.heap[g0]? = some (.cells #[.string t] 9 (0, 0))) (hn : n ≤ 1000000) (hbase : base ≤ w.heap.size)
    (h : ∀ g cap w', Row w' base (.slice (some ⟨g, 0, none⟩) (n + 1) cap) (xs ++ [t]) → w.grownBy w' v.ownBlock → (v.ownBlock = some g ∨ g = w.heap.size) → g < w'.heap.size → K (a.put o.dst (.slice (some ⟨g, 0, none⟩) (n + 1) cap)) w') :
    if Region.wanted o (yielded ops a.tmps) = true then Oper.wp Tryz.prog o a w K Q else E := by
  subst hlen
  exact app_step hgd s x ho base v xs hs hown g0 hx t hc hn hbase h
end
end Go.Proofs.YtllhbcpbihhdnaaGreatDoor
end
section
set_option linter.unusedVariables false
set_option linter.unusedSimpArgs false
namespace Go.Proofs.YtllhbcpbihhdnaaGreatDoor
open Go.RowKit
set_option maxRecDepth 100000
set_option maxHeartbeats 2000000 in
theorem command_upper (s : ByteArray) (w : World) (hs : s.size ≤ 140737488351232) :
    Calls Tryz.prog 29 #[.string s] w fun e w' => e = .returned (.string ⟨(Txt.upper s.data.toList).toArray⟩) ∧ Below w.heap.size w w' := by
  have hds : s.data.toList.length = s.size := by simp
  have kb := fun W => Lib.run_convert_string_bytes (P := Tryz.prog) W 9 40 5 s Tryz.underlying9 Tryz.underlying40 Tryz.underlying5
  go_enter Tryz.func29, Tryz.ntmps29
  go_wp2
  go_loopw [10] (fun i wr => ∃ k : Nat, k ≤ s.size ∧ i = .int .i64 k ∧ Aside ((∀ j, j < s.size → wr.cell? ⟨w.heap.size, j, none⟩ = some (.int .u8 (Txt.mid s.data.toList k j)) ∧ wr.frozen? ⟨w.heap.size, j, none⟩ = false) ∧ Below w.heap.size w wr ∧ w.heap.size < wr.heap.size))
    (fun i _ => s.size - (intOf i).toNat)
  case atStart =>
    refine ⟨0, by omega, rfl, ⟨fun j hj => ⟨?_, bytes_free w _ s j hj⟩, ?_, by rw [Lib.bytesWorld_size]; omega⟩⟩
    · rw [Lib.bytesWorld_cell _ _ _ _ hj, Txt.mid_zero]
    · exact ((Below.refl _ _ : Below w.heap.size w w)).trans ⟨rfl, rfl, rfl, by rw [Lib.bytesWorld_size]; omega, fun k hk => Lib.bytesWorld_at_old w _ s k hk⟩
  case round =>
    obtain ⟨k, hk, rfl, HR⟩ := hrel
    by_cases hlt : k < s.size
    · obtain ⟨hc, hf⟩ := HR.out.1 k hlt
      rw [Txt.mid_at] at hc
      generalize hcv : s.data.toList.getD k 0 = c at hc
      have hcr := c.toNat_lt
      have HV := Lib.hid hcv
      clear hcv
      by_cases hl : 97 ≤ c.toNat ∧ c.toNat ≤ 122
      · obtain ⟨l1, l2⟩ := hl
        go_wp2
        all_goals
          go_roundw
          case measure => simp [intOf]; omega
          case rel =>
            refine ⟨k + 1, by omega, by go_num, ⟨fun j hj => ?_, HR.out.2.1.setCell (Nat.le_refl _) _, by simpa [World.setCell] using HR.out.2.2⟩⟩
            by_cases e : j = k
            · subst e
              refine ⟨?_, by simp [hf]⟩
              rw [Txt.mid_new, HV.out, Txt.up_low ⟨l1, l2⟩]
              refine (World.cell?_setCell_same _ _ _ hc).trans ?_
              congr 2
              omega
            · rw [Txt.mid_ne _ _ _ e]
              obtain ⟨g1, g2⟩ := HR.out.1 j hj
              exact ⟨by rw [World.cell?_setCell_other _ _ _ _ (by intro q; injection q; omega)]; exact g1, by simpa using g2⟩
      · have HN := Lib.hid hl
        have h97 : (decide (97 ≤ (c.toNat : Int)) && decide ((c.toNat : Int) ≤ 122)) = false := by
          rw [Bool.and_eq_false_iff, decide_eq_false_iff_not, decide_eq_false_iff_not]; omega
        clear hl
        go_wp2
        all_goals
          first
            | (exfalso; have h1 : (97 : Int) ≤ (c.toNat : Int) := by assumption
               have h2 : (c.toNat : Int) ≤ 122 := by assumption
               exact HN.out ⟨by omega, by omega⟩)
            | (go_roundw
               case measure => simp [intOf]; omega
               case rel => exact ⟨k + 1, by omega, by go_num, ⟨fun j hj => by rw [Txt.mid_same _ _ (by rw [HV.out]; exact Txt.up_not HN.out)]; exact HR.out.1 j hj, HR.out.2.1, HR.out.2.2⟩⟩)
    · have hke : k = s.size := by omega
      subst hke
      have hst := run_convert_bytes_arg (P := Tryz.prog) (w := wr) 40 5 Tryz.underlying40 Tryz.underlying5 w.heap.size 0 s.size (grownCap w s.size 0 5) ((List.range s.size).map fun j => Txt.mid s.data.toList s.size j) (by simp) (fun i hi => by
        rw [Nat.zero_add, (HR.out.1 i hi).1]; simp [List.getD_eq_getElem?_getD, hi]) 9 Tryz.underlying9
      rw [nums_upper s.data.toList s.size hds _ (by simp) (fun j hj => by simp [List.getD_eq_getElem?_getD, hj])] at hst
      go_wp2
      go_ret
      exact ⟨rfl, HR.out.2.1⟩
end Go.Proofs.YtllhbcpbihhdnaaGreatDoor
end
