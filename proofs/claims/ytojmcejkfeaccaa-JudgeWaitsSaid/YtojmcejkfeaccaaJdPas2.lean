/-
  Walks of the package judge: what time's passing does, in one contract.
-/
import Derived.Test.YtojmcejkfeaccaaJdPass
set_option linter.unusedVariables false
set_option linter.unusedSimpArgs false
namespace Go.Proofs.Ytojmcejkfeaccaa
open Go.RowKit
set_option maxRecDepth 100000
/-- A message's cells. -/
def mcs (m : JdMsg.Msg) : Array Value := #[.int .i64 m.id, .int .i64 m.at_, .int .i64 m.rel, .string m.fl, .string m.fd, .bool m.hsz, .bool m.hhf, .bool m.hhu, .bool m.hby, .bool m.hpr, .int .i64 m.siz, .int .i64 m.hfo, .int .i64 m.hun, .int .i64 m.by_, .int .i64 m.pri, .string m.body, .string m.ret, .string m.env, .string m.mode, .slice m.rA m.rn m.rc, .slice m.lA m.ln m.lc]
theorem expires_m (b mo li wa : Int) (m : JdMsg.Msg) (w : World) (h1 : 0 ≤ m.at_) (h2 : m.at_ ≤ 1099511627776) (h3 : 0 ≤ li) (h4 : li ≤ 1073741824) :
    Calls Try.prog 12 #[.agg #[.int .i64 b, .int .i64 mo, .int .i64 li, .int .i64 wa], .agg (mcs m)] w fun e w' => e = .returned (.int .i64 (m.at_ + li)) ∧ Below w.heap.size w w' := expires_any b mo li wa m w h1 h2 h3 h4
theorem deadline_m (m : JdMsg.Msg) (w : World) (h1 : 0 ≤ m.at_) (h2 : m.at_ ≤ 1099511627776) (h3 : -999999999 ≤ m.by_) (h4 : m.by_ ≤ 999999999) :
    Calls Try.prog 10 #[.agg (mcs m)] w fun e w' => e = .returned (.tuple #[.int .i64 (if m.hby = true then m.at_ + m.by_ else 0), .bool m.hby]) ∧ Below w.heap.size w w' := deadline_any m w h1 h2 h3 h4
theorem report_m (m : JdMsg.Msg) (bb : Nat) (pl : Nat) (st : ByteArray) (tr nx td : Int) (k : ByteArray) (f : Bool) (c : UInt8) (x : Int) (s : Bool) (i : Nat) (nf : ByteArray) (ab ao : Nat) (w : World)
    (hs : Blk w bb #[.int .i64 pl, .string st, .int .i64 tr, .int .i64 nx, .int .i64 td] 44)
    (hA : m.rA = some ⟨ab, ao, none⟩) (hpl : pl < m.rn) (hrn : m.rn ≤ 1000000) (hnf : w.cell? ⟨ab, ao + pl * 5 + 2, none⟩ = some (.string nf))
    (hk : Instr.findNow .string (.string k) tellEnts.toList 0 = some (some (i, .agg #[.string ⟨#[c]⟩, .int .i64 x, .bool s]))) (kk : Option ByteArray) (td2 : Int) (HK : Hid ((if made m nf td x c s f = true then some k else none) = kk)) (HT : Hid ((if made m nf td x c s f = true then bits .or .i64 td x else td) = td2)) :
    Calls Try.prog 16 #[.agg (mcs m), .pointer (some ⟨bb, 0, none⟩), .string k, .bool f] w fun e w' => ∃ v, e = .returned v ∧ Row w.heap.size w' v kk ∧ Blk w' bb #[.int .i64 pl, .string st, .int .i64 tr, .int .i64 nx, .int .i64 td2] 44 ∧ Chg (· = bb) w w' := by
  have h := report_all m bb pl st tr nx td k f c x s i nf ab ao w hs hA hpl hrn hnf hk
  rw [HK.out, HT.out] at h
  exact h
/-- What lies in memory while judge.pass runs. -/
structure PassW (w : World) (b mo li wa : Int) (m : JdMsg.Msg) (pl : Int) (st : ByteArray) (tr nx td : Int) (w' : World) : Prop where
  plan : Blk w' w.heap.size #[.int .i64 b, .int .i64 mo, .int .i64 li, .int .i64 wa] 23
  msg : Blk w' (w.heap.size + 1) (mcs m) 42
  sta : Blk w' (w.heap.size + 1 + 1) #[.int .i64 pl, .string st, .int .i64 tr, .int .i64 nx, .int .i64 td] 44
  res : Blk w' (w.heap.size + 1 + 1 + 1) #[.int .i64 0, .string ⟨#[]⟩, .int .i64 0, .int .i64 0, .int .i64 0] 44
  low : Below w.heap.size w w'
theorem PassW.start (w : World) (b mo li wa : Int) (m : JdMsg.Msg) (pl : Int) (st : ByteArray) (tr nx td : Int) :
    PassW w b mo li wa m pl st tr nx td ((((w.alloc (.cells #[.int .i64 b, .int .i64 mo, .int .i64 li, .int .i64 wa] 23)).alloc (.cells (mcs m) 42)).alloc (.cells #[.int .i64 pl, .string st, .int .i64 tr, .int .i64 nx, .int .i64 td] 44)).alloc (.cells #[.int .i64 0, .string ⟨#[]⟩, .int .i64 0, .int .i64 0, .int .i64 0] 44)) := by
  have b0 := Blk.new (w := w) #[.int .i64 b, .int .i64 mo, .int .i64 li, .int .i64 wa] 23
  have b1 := Blk.new (w := w.alloc (.cells #[.int .i64 b, .int .i64 mo, .int .i64 li, .int .i64 wa] 23)) (mcs m) 42
  have b2 := Blk.new (w := (w.alloc (.cells #[.int .i64 b, .int .i64 mo, .int .i64 li, .int .i64 wa] 23)).alloc (.cells (mcs m) 42)) #[.int .i64 pl, .string st, .int .i64 tr, .int .i64 nx, .int .i64 td] 44
  have b3 := Blk.new (w := ((w.alloc (.cells #[.int .i64 b, .int .i64 mo, .int .i64 li, .int .i64 wa] 23)).alloc (.cells (mcs m) 42)).alloc (.cells #[.int .i64 pl, .string st, .int .i64 tr, .int .i64 nx, .int .i64 td] 44)) #[.int .i64 0, .string ⟨#[]⟩, .int .i64 0, .int .i64 0, .int .i64 0] 44
  simp only [World.size_alloc] at b1 b2 b3
  exact ⟨((b0.old _).old _).old _, (b1.old _).old _, b2.old _, b3, ((((Below.refl _ _).alloc (Nat.le_refl _) _).alloc (by simp) _).alloc (by simp; omega) _).alloc (by simp; omega) _⟩
theorem PassW.next {w : World} {b mo li wa : Int} {m : JdMsg.Msg} {pl : Int} {st : ByteArray} {tr nx td : Int} {w1 w2 : World} (h : PassW w b mo li wa m pl st tr nx td w1) (hb : Below w1.heap.size w1 w2) : PassW w b mo li wa m pl st tr nx td w2 :=
  ⟨h.plan.below hb, h.msg.below hb, h.sta.below hb, h.res.below hb, Below.next h.low hb (Nat.le_refl _)⟩
theorem PassW.drewN {w : World} {b mo li wa : Int} {m : JdMsg.Msg} {pl : Int} {st : ByteArray} {tr nx td : Int} {w1 : World} (h : PassW w b mo li wa m pl st tr nx td w1) (n : Nat) : PassW w b mo li wa m pl st tr nx td (w1.drewN n) :=
  ⟨h.plan, h.msg, h.sta, h.res, pw_below_drewN h.low n⟩
theorem PassW.setS {w : World} {b mo li wa : Int} {m : JdMsg.Msg} {pl : Int} {st : ByteArray} {tr nx td : Int} {w1 : World} (h : PassW w b mo li wa m pl st tr nx td w1) (s : ByteArray) : PassW w b mo li wa m pl s tr nx td (w1.setCell ⟨w.heap.size + 1 + 1, 1, none⟩ (.string s)) :=
  ⟨h.plan.setOther _ (by simp; omega), h.msg.setOther _ (by simp), by have := h.sta.set 1 (.string s); simpa using this, h.res.setOther _ (by simp), h.low.setCell (by simp; omega) _⟩
/-- A whole struct out of a block that is known. -/
theorem load_blk {ops : Array Oper} {rest : List Oper} {op : Oper} {a : Act} {w : World} {Q : Exit → Act → World → Prop} (b : Nat) (ty : TypeId) (hgd : op.guard = none) (x : Operand) (ho : op.op = .load ty x)
    (hx : a.eval x = .pointer (some ⟨b, 0, none⟩)) (cs : Array Value) (t : TypeId) (d : TypeDesc) (hb : Blk w b cs t) (hu : Try.prog.underlying ty = some d) (hd : d.isRow = true) (hi : (Try.prog.info? ty).map (·.size) = some cs.size)
    (h : wpList Try.prog ops Q rest (a.put op.dst (.agg cs)) w) : wpList Try.prog ops Q (op :: rest) a w := by
  refine wpList_load_mid hgd ty x ho b 0 hx cs.toList d (fun j v hv => ?_) hu hd (by simpa using hi) (by simpa using h)
  have := hb.cell j v (by simpa using hv)
  simpa using this
/-- The end of judge.pass: what stands in the result's block. -/
theorem pass_end {w w4 : World} {v : Value} {pl : Int} {s : ByteArray} {tr nx td : Int} {kk : Option ByteArray} {B : Nat} (hre : Blk w4 (w.heap.size + 1 + 1 + 1) #[.int .i64 0, .string ⟨#[]⟩, .int .i64 0, .int .i64 0, .int .i64 0] 44) (hB : w.heap.size + 1 + 1 + 1 < B) (hrow : Row B w4 v kk) (hl : Below w.heap.size w w4) :
    let W := ((((w4.setCell ⟨w.heap.size + 1 + 1 + 1, 0, none⟩ (.int .i64 pl)).setCell ⟨w.heap.size + 1 + 1 + 1, 1, none⟩ (.string s)).setCell ⟨w.heap.size + 1 + 1 + 1, 2, none⟩ (.int .i64 tr)).setCell ⟨w.heap.size + 1 + 1 + 1, 3, none⟩ (.int .i64 nx)).setCell ⟨w.heap.size + 1 + 1 + 1, 4, none⟩ (.int .i64 td)
    Blk W (w.heap.size + 1 + 1 + 1) #[.int .i64 pl, .string s, .int .i64 tr, .int .i64 nx, .int .i64 td] 44 ∧ Row w.heap.size W v kk ∧ Below w.heap.size w W := by
  refine ⟨?_, ?_, ?_⟩
  · have := ((((hre.set 0 (.int .i64 pl)).set 1 (.string s)).set 2 (.int .i64 tr)).set 3 (.int .i64 nx)).set 4 (.int .i64 td)
    simpa using this
  · exact Row.mono (((((hrow.setOther (a := ⟨_, 0, none⟩) hB _).setOther (a := ⟨_, 1, none⟩) hB _).setOther (a := ⟨_, 2, none⟩) hB _).setOther (a := ⟨_, 3, none⟩) hB _).setOther (a := ⟨_, 4, none⟩) hB _) (by omega)
  · exact ((((hl.setCell (by simp; omega) _).setCell (by simp; omega) _).setCell (by simp; omega) _).setCell (by simp; omega) _).setCell (by simp; omega) _
end Go.Proofs.Ytojmcejkfeaccaa
