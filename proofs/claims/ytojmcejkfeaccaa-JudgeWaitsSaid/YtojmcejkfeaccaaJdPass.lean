/-
  What judge.report does, in one; of time's passing.
-/
import Derived.Test.YtojmcejkfeaccaaJdRep
import Derived.Deep.MidRow
import Derived.Laws.ResultCell
import Derived.Laws.Rows
set_option linter.unusedVariables false
set_option linter.unusedSimpArgs false
namespace Go.Proofs.Ytojmcejkfeaccaa
open Go.RowKit
set_option maxRecDepth 100000

/-- Is a report made? -/
def made (m : JdMsg.Msg) (nf : ByteArray) (td x : Int) (c : UInt8) (s f : Bool) : Bool :=
  !(m.fl.toList.isEmpty && m.fd.toList.isEmpty) && (!(bits .and .i64 td x != 0) && (decide (0 ≤ Lib.indexByte nf.data.toList c) || ((nf.toList.isEmpty && s) || (f && !(nf.toList == [78])))))
/-- A new row of one text, or none. -/
def Row (B : Nat) (w' : World) (v : Value) (k : Option ByteArray) : Prop :=
  match k with
  | none => v = .slice none 0 0
  | some k => ∃ q : Nat, v = .slice (some ⟨q, 0, none⟩) 1 1 ∧ B ≤ q ∧ Blk w' q #[.string k] 9
theorem Row.mono {B B' : Nat} {w : World} {v : Value} {k : Option ByteArray} (h : Row B w v k) (hB : B' ≤ B) : Row B' w v k := by
  cases k with
  | none => exact h
  | some k => obtain ⟨q, h1, h2, h3⟩ := h; exact ⟨q, h1, Nat.le_trans hB h2, h3⟩
theorem Row.drew {B : Nat} {w : World} {v : Value} {k : Option ByteArray} (h : Row B w v k) : Row B w.drew v k := by
  cases k with
  | none => exact h
  | some k => exact h
theorem Row.setOther {B : Nat} {w : World} {v : Value} {k : Option ByteArray} (h : Row B w v k) {a : Addr} (ha : a.block < B) (u : Value) : Row B (w.setCell a u) v k := by
  cases k with
  | none => exact h
  | some k => obtain ⟨q, h1, h2, h3⟩ := h; exact ⟨q, h1, h2, h3.setOther a (by omega)⟩
theorem report_all (m : JdMsg.Msg) (bb : Nat) (pl : Nat) (st : ByteArray) (tr nx td : Int) (k : ByteArray) (f : Bool) (c : UInt8) (x : Int) (s : Bool) (i : Nat) (nf : ByteArray) (ab ao : Nat) (w : World)
    (hs : Blk w bb #[.int .i64 pl, .string st, .int .i64 tr, .int .i64 nx, .int .i64 td] 44)
    (hA : m.rA = some ⟨ab, ao, none⟩) (hpl : pl < m.rn) (hrn : m.rn ≤ 1000000) (hnf : w.cell? ⟨ab, ao + pl * 5 + 2, none⟩ = some (.string nf))
    (hk : Instr.findNow .string (.string k) tellEnts.toList 0 = some (some (i, .agg #[.string ⟨#[c]⟩, .int .i64 x, .bool s]))) :
    Calls Try.prog 16 #[.agg #[.int .i64 m.id, .int .i64 m.at_, .int .i64 m.rel, .string m.fl, .string m.fd, .bool m.hsz, .bool m.hhf, .bool m.hhu, .bool m.hby, .bool m.hpr, .int .i64 m.siz, .int .i64 m.hfo, .int .i64 m.hun, .int .i64 m.by_, .int .i64 m.pri, .string m.body, .string m.ret, .string m.env, .string m.mode, .slice m.rA m.rn m.rc, .slice m.lA m.ln m.lc], .pointer (some ⟨bb, 0, none⟩), .string k, .bool f] w fun e w' => ∃ v, e = .returned v ∧ Row w.heap.size w' v (if made m nf td x c s f = true then some k else none) ∧ Blk w' bb #[.int .i64 pl, .string st, .int .i64 tr, .int .i64 nx, .int .i64 (if made m nf td x c s f = true then bits .or .i64 td x else td)] 44 ∧ Chg (· = bb) w w' := by
  have no : made m nf td x c s f = false → ∀ e w', RepNo w e w' → ∃ v, e = .returned v ∧ Row w.heap.size w' v (if made m nf td x c s f = true then some k else none) ∧ Blk w' bb #[.int .i64 pl, .string st, .int .i64 tr, .int .i64 nx, .int .i64 (if made m nf td x c s f = true then bits .or .i64 td x else td)] 44 ∧ Chg (· = bb) w w' := by
    rintro h e w' ⟨h1, h2⟩
    rw [h]
    exact ⟨_, h1, rfl, hs.below h2, Chg.ofBelow h2 _⟩
  cases hnu : (m.fl.toList.isEmpty && m.fd.toList.isEmpty) with
  | true =>
    exact (report_null m bb pl st tr nx td k f c x s i nf ab ao w hs hA hpl hrn hnf hk hnu _ rfl).mono (no (by unfold made; rw [hnu]; rfl))
  | false =>
    cases hdd : (bits .and .i64 td x != 0) with
    | true =>
      exact (report_told m bb pl st tr nx td k f c x s i nf ab ao w hs hA hpl hrn hnf hk hnu hdd _ rfl).mono (no (by unfold made; rw [hnu, hdd]; rfl))
    | false =>
      cases ha : (decide (0 ≤ Lib.indexByte nf.data.toList c) || ((nf.toList.isEmpty && s) || (f && !(nf.toList == [78])))) with
      | false =>
        exact (report_unasked m bb pl st tr nx td k f c x s i nf ab ao w hs hA hpl hrn hnf hk hnu hdd _ rfl ha).mono (no (by unfold made; rw [hnu, hdd, ha]; rfl))
      | true =>
        have hm : made m nf td x c s f = true := by unfold made; rw [hnu, hdd, ha]; rfl
        refine (report_yes m bb pl st tr nx td k f c x s i nf ab ao w hs hA hpl hrn hnf hk hnu hdd _ rfl ha).mono ?_
        rintro e w' ⟨q, h1, h2, h3, h4, h5⟩
        rw [hm]
        exact ⟨_, h1, ⟨q, rfl, h2, h3⟩, h4, h5⟩

/-- Has the deadline come? Is it late? Is it over? -/
def come (m : JdMsg.Msg) (now : Int) : Bool := m.hby && decide (m.at_ + m.by_ ≤ now)
def late (m : JdMsg.Msg) (now : Int) : Bool := come m now && Lib.hasPrefix m.mode.data.toList [82]
def over (li : Int) (m : JdMsg.Msg) (now : Int) : Bool := decide (m.at_ + li ≤ now) || late m now
def warns (wa : Int) (m : JdMsg.Msg) (now : Int) : Bool := come m now || decide (wa ≤ now - m.at_)
def passOut (li wa : Int) (m : JdMsg.Msg) (st nf : ByteArray) (td now : Int) : ByteArray × Int × Option ByteArray :=
  if over li m now = true then (⟨#[70]⟩, (if made m nf td 2 70 true (late m now) = true then bits .or .i64 td 2 else td), (if made m nf td 2 70 true (late m now) = true then some ⟨#[102, 97, 105, 108, 101, 100]⟩ else none))
  else if warns wa m now = true then (st, (if made m nf td 1 68 true (come m now) = true then bits .or .i64 td 1 else td), (if made m nf td 1 68 true (come m now) = true then some ⟨#[100, 101, 108, 97, 121, 101, 100]⟩ else none))
  else (st, td, none)
theorem expires_at (b mo li wa : Int) (m : JdMsg.Msg) (w : World) (h1 : 0 ≤ m.at_) (h2 : m.at_ ≤ 1099511627776) (h3 : 0 ≤ li) (h4 : li ≤ 1073741824) :
    Calls Try.prog 12 #[.agg #[.int .i64 b, .int .i64 mo, .int .i64 li, .int .i64 wa], .agg #[.int .i64 m.id, .int .i64 m.at_, .int .i64 m.rel, .string m.fl, .string m.fd, .bool m.hsz, .bool m.hhf, .bool m.hhu, .bool m.hby, .bool m.hpr, .int .i64 m.siz, .int .i64 m.hfo, .int .i64 m.hun, .int .i64 m.by_, .int .i64 m.pri, .string m.body, .string m.ret, .string m.env, .string m.mode, .slice m.rA m.rn m.rc, .slice m.lA m.ln m.lc]] w fun e w' => e = .returned (.int .i64 (m.at_ + li)) ∧ w' = (w.alloc (.cells #[.int .i64 b, .int .i64 mo, .int .i64 li, .int .i64 wa] 23)).alloc (.cells #[.int .i64 m.id, .int .i64 m.at_, .int .i64 m.rel, .string m.fl, .string m.fd, .bool m.hsz, .bool m.hhf, .bool m.hhu, .bool m.hby, .bool m.hpr, .int .i64 m.siz, .int .i64 m.hfo, .int .i64 m.hun, .int .i64 m.by_, .int .i64 m.pri, .string m.body, .string m.ret, .string m.env, .string m.mode, .slice m.rA m.rn m.rc, .slice m.lA m.ln m.lc] 42) := by
  go_enter Try.func12, Try.ntmps12
  go_wp2
  go_ret
  exact ⟨rfl, rfl⟩
theorem deadline_at_yes (m : JdMsg.Msg) (w : World) (hb : m.hby = true) (h1 : 0 ≤ m.at_) (h2 : m.at_ ≤ 1099511627776) (h3 : -999999999 ≤ m.by_) (h4 : m.by_ ≤ 999999999) :
    Calls Try.prog 10 #[.agg #[.int .i64 m.id, .int .i64 m.at_, .int .i64 m.rel, .string m.fl, .string m.fd, .bool m.hsz, .bool m.hhf, .bool m.hhu, .bool m.hby, .bool m.hpr, .int .i64 m.siz, .int .i64 m.hfo, .int .i64 m.hun, .int .i64 m.by_, .int .i64 m.pri, .string m.body, .string m.ret, .string m.env, .string m.mode, .slice m.rA m.rn m.rc, .slice m.lA m.ln m.lc]] w fun e w' => e = .returned (.tuple #[.int .i64 (m.at_ + m.by_), .bool true]) ∧ w' = w.alloc (.cells #[.int .i64 m.id, .int .i64 m.at_, .int .i64 m.rel, .string m.fl, .string m.fd, .bool m.hsz, .bool m.hhf, .bool m.hhu, .bool m.hby, .bool m.hpr, .int .i64 m.siz, .int .i64 m.hfo, .int .i64 m.hun, .int .i64 m.by_, .int .i64 m.pri, .string m.body, .string m.ret, .string m.env, .string m.mode, .slice m.rA m.rn m.rc, .slice m.lA m.ln m.lc] 42) := by
  go_enter Try.func10, Try.ntmps10
  go_wp2
  go_ret2
  exact ⟨rfl, by rw [hb]⟩
theorem deadline_at_no (m : JdMsg.Msg) (w : World) (hb : m.hby = false) :
    Calls Try.prog 10 #[.agg #[.int .i64 m.id, .int .i64 m.at_, .int .i64 m.rel, .string m.fl, .string m.fd, .bool m.hsz, .bool m.hhf, .bool m.hhu, .bool m.hby, .bool m.hpr, .int .i64 m.siz, .int .i64 m.hfo, .int .i64 m.hun, .int .i64 m.by_, .int .i64 m.pri, .string m.body, .string m.ret, .string m.env, .string m.mode, .slice m.rA m.rn m.rc, .slice m.lA m.ln m.lc]] w fun e w' => e = .returned (.tuple #[.int .i64 0, .bool false]) ∧ w' = w.alloc (.cells #[.int .i64 m.id, .int .i64 m.at_, .int .i64 m.rel, .string m.fl, .string m.fd, .bool m.hsz, .bool m.hhf, .bool m.hhu, .bool m.hby, .bool m.hpr, .int .i64 m.siz, .int .i64 m.hfo, .int .i64 m.hun, .int .i64 m.by_, .int .i64 m.pri, .string m.body, .string m.ret, .string m.env, .string m.mode, .slice m.rA m.rn m.rc, .slice m.lA m.ln m.lc] 42) := by
  go_enter Try.func10, Try.ntmps10
  go_wp2
  go_ret2
  exact ⟨rfl, by rw [hb]⟩
theorem returns_at (m : JdMsg.Msg) (w : World) :
    Calls Try.prog 18 #[.agg #[.bool m.hsz, .bool m.hhf, .bool m.hhu, .bool m.hby, .bool m.hpr, .int .i64 m.siz, .int .i64 m.hfo, .int .i64 m.hun, .int .i64 m.by_, .int .i64 m.pri, .string m.body, .string m.ret, .string m.env, .string m.mode]] w fun e w' => e = .returned (.bool (Lib.hasPrefix m.mode.data.toList [82])) ∧ w' = w.alloc (.cells #[.bool m.hsz, .bool m.hhf, .bool m.hhu, .bool m.hby, .bool m.hpr, .int .i64 m.siz, .int .i64 m.hfo, .int .i64 m.hun, .int .i64 m.by_, .int .i64 m.pri, .string m.body, .string m.ret, .string m.env, .string m.mode] 34) := by
  go_enter Try.func18, Try.ntmps18
  go_wp2_with (go_at_call 22; refine (Try.strings_HasPrefix _ _ _).mono ?_; rintro e w1 ⟨rfl, rfl⟩)
  go_ret
  exact ⟨rfl, rfl⟩
theorem load_msg {ops : Array Oper} {rest : List Oper} {op : Oper} {a : Act} {w : World} {Q : Exit → Act → World → Prop} (m : JdMsg.Msg) (b : Nat) (hgd : op.guard = none) (x : Operand) (ho : op.op = .load 42 x)
    (hx : a.eval x = .pointer (some ⟨b, 0, none⟩)) (hb : Blk w b #[.int .i64 m.id, .int .i64 m.at_, .int .i64 m.rel, .string m.fl, .string m.fd, .bool m.hsz, .bool m.hhf, .bool m.hhu, .bool m.hby, .bool m.hpr, .int .i64 m.siz, .int .i64 m.hfo, .int .i64 m.hun, .int .i64 m.by_, .int .i64 m.pri, .string m.body, .string m.ret, .string m.env, .string m.mode, .slice m.rA m.rn m.rc, .slice m.lA m.ln m.lc] 42)
    (h : wpList Try.prog ops Q rest (a.put op.dst (.agg #[.int .i64 m.id, .int .i64 m.at_, .int .i64 m.rel, .string m.fl, .string m.fd, .bool m.hsz, .bool m.hhf, .bool m.hhu, .bool m.hby, .bool m.hpr, .int .i64 m.siz, .int .i64 m.hfo, .int .i64 m.hun, .int .i64 m.by_, .int .i64 m.pri, .string m.body, .string m.ret, .string m.env, .string m.mode, .slice m.rA m.rn m.rc, .slice m.lA m.ln m.lc])) w) : wpList Try.prog ops Q (op :: rest) a w := by
  refine wpList_load_mid hgd _ x ho b 0 hx [.int .i64 m.id, .int .i64 m.at_, .int .i64 m.rel, .string m.fl, .string m.fd, .bool m.hsz, .bool m.hhf, .bool m.hhu, .bool m.hby, .bool m.hpr, .int .i64 m.siz, .int .i64 m.hfo, .int .i64 m.hun, .int .i64 m.by_, .int .i64 m.pri, .string m.body, .string m.ret, .string m.env, .string m.mode, .slice m.rA m.rn m.rc, .slice m.lA m.ln m.lc] _ (fun j v hv => ?_) Try.underlying42 (by rfl) (by kernel_rfl) h
  have := hb.cell j v (by simpa using hv)
  simpa using this
theorem results_cell_tmp_row {P : Program} {fn : Func} {p u : Tmp} {ty : TypeId} (h : fn.results = #[.cell p ty, .tmp u]) (tmps : Array Value) (w : World) (g : Nat) (t : TypeId) (cs : Array Value) (d : TypeDesc)
    (hp : tmps.getD p undef = .pointer (some ⟨g, 0, none⟩)) (hg : Blk w g cs t)
    (hu : P.underlying ty = some d) (hd : (match d with | .struct _ | .array _ _ => true | _ => false) = true) (hi : (P.info? ty).map (·.size) = some cs.size) :
    (results fn tmps).run P w = .ok (.tuple #[.agg cs, tmps.getD u undef]) w := by
  rw [results_cell_tmp h, hp]
  simp [asAddr, run_loadVar_row w g t ty cs (0, 0) d hg hu hd hi]
end Go.Proofs.Ytojmcejkfeaccaa
