/-
  The words' contracts at whole structs; Small; two structs compared.
-/
import Derived.Test.YtfffdbjfhdkheaaGreatDoorQPmLaw5
import Derived.Test.YtfffdbjfhdkheaaGreatDoorQPmAw
set_option linter.unusedVariables false
set_option linter.unusedSimpArgs false
namespace Go.Proofs.YtfffdbjfhdkheaaGreatDoor
open Go.RowKit Go.Shelf Pm
set_option maxRecDepth 100000
namespace Pm
/-- A message's numbers are of 64 bits, its texts short. -/
structure Fit (m : Ml) : Prop where
  s : I64 m.s
  f : I64 m.f
  b : I64 m.b
  p : I64 m.p
  body : m.body.size ≤ 2000
  ret : m.ret.size ≤ 2000
  mode : m.mode.size ≤ 2000
theorem ok_fit (m : Ml) (h : MOk m) : Fit m := by
  have hb : m.body.size ≤ 2000 := by
    rcases h.body with k | k
    · rw [k]; decide
    · simp only [List.mem_cons, List.not_mem_nil, or_false] at k
      rcases k with k | k <;> rw [k] <;> decide
  have hr : m.ret.size ≤ 2000 := by
    rcases h.ret with k | k
    · rw [k]; decide
    · simp only [List.mem_cons, List.not_mem_nil, or_false] at k
      rcases k with k | k <;> rw [k] <;> decide
  have hm : m.mode.size ≤ 2000 ∧ -999999999 ≤ least m.mode := by
    refine ⟨?_, by unfold least; split <;> omega⟩
    rcases h.b with k | k
    · rw [k.2.2]; decide
    · have k0 := k.2.1
      simp only [modes, List.mem_cons, List.not_mem_nil, or_false] at k0
      rcases k0 with k | k | k | k <;> rw [k] <;> decide
  refine ⟨?_, ?_, ?_, ?_, hb, hr, hm.1⟩
  · unfold I64; rcases h.s with k | k <;> omega
  · unfold I64; rcases h.f with k | k <;> omega
  · unfold I64; rcases h.b with k | k <;> omega
  · unfold I64; rcases h.p with k | k <;> omega
theorem date_size (u : Int) : (dateB u).size ≤ 20 := by
  unfold dateB
  split
  · have : (DtCal.text u).length = 20 := rfl
    simp [ByteArray.size, this]
  · simp [ByteArray.size]
theorem enc_size (s : ByteArray) : (encB s).size ≤ 3 * s.size := by
  have h := Tx.enc_len s.data.toList
  have h2 : s.data.toList.length = s.size := by simp
  show (Tx.enc s.data.toList).toArray.size ≤ _
  simp only [List.size_toArray]
  omega
theorem text_size (m : Ml) (h : Fit m) (he : m.envid.size ≤ 100) : m.text.size ≤ 100000 := by
  have hw : m.words.length ≤ 8 := by
    unfold Ml.words words8
    exact more_len _ _ _ _ 7 (more_len _ _ _ _ 6 (more_len _ _ _ _ 5 (more_len _ _ _ _ 4 (more_len _ _ _ _ 3 (more_len _ _ _ _ 2 (more_len _ _ _ _ 1 (more_len _ _ _ _ 0 (by simp))))))))
  have e1 := itoaB_size m.s h.s
  have e2 := itoaB_size m.f h.f
  have e3 := itoaB_size m.b h.b
  have e4 := itoaB_size m.p h.p
  have e5 := date_size m.u
  have e6 := enc_size m.envid
  have e7 := h.body
  have e8 := h.ret
  have e9 := h.mode
  have q0 : (⟨#[83, 73, 90, 69]⟩ : ByteArray).size = 4 := rfl
  have q1 : (⟨#[66, 79, 68, 89]⟩ : ByteArray).size = 4 := rfl
  have q2 : (⟨#[82, 69, 84]⟩ : ByteArray).size = 3 := rfl
  have q3 : (⟨#[69, 78, 86, 73, 68]⟩ : ByteArray).size = 5 := rfl
  have q4 : (⟨#[72, 79, 76, 68, 70, 79, 82]⟩ : ByteArray).size = 7 := rfl
  have q5 : (⟨#[72, 79, 76, 68, 85, 78, 84, 73, 76]⟩ : ByteArray).size = 9 := rfl
  have q6 : (⟨#[66, 89]⟩ : ByteArray).size = 2 := rfl
  have q7 : (⟨#[77, 84, 45, 80, 82, 73, 79, 82, 73, 84, 89]⟩ : ByteArray).size = 11 := rfl
  have q8 : (⟨#[59]⟩ : ByteArray).size = 1 := rfl
  have q9 : (⟨#[78, 79, 84, 73, 70, 89]⟩ : ByteArray).size = 6 := rfl
  have q10 : (⟨#[79, 82, 67, 80, 84]⟩ : ByteArray).size = 5 := rfl
  have hf : flatLen m.words ≤ 20000 := by
    unfold Ml.words words8
    refine Nat.le_trans (more_flat _ _ _ _ 17000 100 (more_flat _ _ _ _ 14000 2500 (more_flat _ _ _ _ 13500 100 (more_flat _ _ _ _ 13000 100 (more_flat _ _ _ _ 12000 500 (more_flat _ _ _ _ 9000 2500 (more_flat _ _ _ _ 1000 2500 (more_flat _ _ _ _ 0 100 (by simp [flatLen]) ?_ |> fun x => Nat.le_trans x (by omega)) ?_ |> fun x => Nat.le_trans x (by omega)) ?_ |> fun x => Nat.le_trans x (by omega)) ?_ |> fun x => Nat.le_trans x (by omega)) ?_ |> fun x => Nat.le_trans x (by omega)) ?_ |> fun x => Nat.le_trans x (by omega)) ?_ |> fun x => Nat.le_trans x (by omega)) ?_) (by omega)
    all_goals ((try simp only [ByteArray.size_append]); omega)
  rw [text_words]
  have hj := join_len [32] m.words
  show (Lib.join (m.words.map (·.data.toList)) [32]).toArray.size ≤ _
  simp only [List.size_toArray]
  simp at hj
  omega
theorem rtext_size (r : Rc) (hk : r.kd.size ≤ 2000) (ho : r.oc.size ≤ 2000) : r.text.size ≤ 100000 := by
  have h1 := join_len [44] (nameK r.nt 3)
  have h2 := nameK_len r.nt
  have h3 := nameK_flat r.nt
  have hj : (joinB (nameK r.nt 3) ⟨#[44]⟩).size ≤ 100 := by
    show (Lib.join ((nameK r.nt 3).map (·.data.toList)) [44]).toArray.size ≤ _
    simp only [List.size_toArray]
    simp at h1
    omega
  have he := enc_size r.oc
  have hw : r.words.length ≤ 2 := by
    unfold Rc.words
    exact more_len _ _ _ _ 1 (more_len _ _ _ _ 0 (by simp))
  have q0 : (⟨#[83, 73, 90, 69]⟩ : ByteArray).size = 4 := rfl
  have q1 : (⟨#[66, 79, 68, 89]⟩ : ByteArray).size = 4 := rfl
  have q2 : (⟨#[82, 69, 84]⟩ : ByteArray).size = 3 := rfl
  have q3 : (⟨#[69, 78, 86, 73, 68]⟩ : ByteArray).size = 5 := rfl
  have q4 : (⟨#[72, 79, 76, 68, 70, 79, 82]⟩ : ByteArray).size = 7 := rfl
  have q5 : (⟨#[72, 79, 76, 68, 85, 78, 84, 73, 76]⟩ : ByteArray).size = 9 := rfl
  have q6 : (⟨#[66, 89]⟩ : ByteArray).size = 2 := rfl
  have q7 : (⟨#[77, 84, 45, 80, 82, 73, 79, 82, 73, 84, 89]⟩ : ByteArray).size = 11 := rfl
  have q8 : (⟨#[59]⟩ : ByteArray).size = 1 := rfl
  have q9 : (⟨#[78, 79, 84, 73, 70, 89]⟩ : ByteArray).size = 6 := rfl
  have q10 : (⟨#[79, 82, 67, 80, 84]⟩ : ByteArray).size = 5 := rfl
  have hf : flatLen r.words ≤ 20000 := by
    unfold Rc.words
    refine Nat.le_trans (more_flat _ _ _ _ 1000 10000 (more_flat _ _ _ _ 0 200 (by simp [flatLen]) ?_ |> fun x => Nat.le_trans x (by omega)) ?_) (by omega)
    all_goals ((try simp only [ByteArray.size_append]); omega)
  rw [rtext_words]
  have hj := join_len [32] r.words
  show (Lib.join (r.words.map (·.data.toList)) [32]).toArray.size ≤ _
  simp only [List.size_toArray]
  simp at hj
  omega
def Ml.small (m : Ml) : Bool := decide (m.body.size + m.ret.size + m.envid.size + m.mode.size ≤ 2000)
def Rc.small (r : Rc) : Bool := decide (r.nt.size + r.kd.size + r.oc.size ≤ 2000)
end Pm
theorem printMail_ml (m : Ml) (h : Fit m) (w : World) (hl : Lv w) : Calls Tryz.prog 9 #[.agg m.cells] w fun e w' => e = .returned (.tuple #[.string (if m.right = 0 then m.text else ⟨#[]⟩), .int .i64 m.right]) ∧ Below w.heap.size w w' :=
  printMail_any m.hS m.hF m.hU m.hB m.hP m.s m.f m.u m.b m.p m.body m.ret m.envid m.mode w hl.tab h.s h.f h.b h.p h.body h.ret h.mode
theorem printRcpt_rc (r : Rc) (h1 : r.kd.size ≤ 2000) (h2 : r.oc.size ≤ 2000) (w : World) : Calls Tryz.prog 12 #[.agg r.cells] w fun e w' => e = .returned (.tuple #[.string (if r.right = 0 then r.text else ⟨#[]⟩), .int .i64 r.right]) ∧ Below w.heap.size w w' :=
  printRcpt_any r.nt r.kd r.oc w (by omega) (by omega)
set_option maxHeartbeats 2000000 in
theorem small_ml (m : Ml) (r : Rc) (hm : m.body.size + m.ret.size + m.envid.size + m.mode.size ≤ 9000000000000000000) (hr : r.nt.size + r.kd.size + r.oc.size ≤ 9000000000000000000) (w : World) :
    Calls Tryz.prog 8 #[.agg m.cells, .agg r.cells] w fun e w' => e = .returned (.bool (m.small && r.small)) ∧ Below w.heap.size w w' := by
  obtain ⟨hS, hF, hU, hB, hP, s, f, u, b, p, body, ret, envid, mode⟩ := m
  obtain ⟨nt, kd, oc⟩ := r
  simp only at hm hr
  unfold Ml.cells Rc.cells Ml.small Rc.small
  simp only
  by_cases h1 : body.size + ret.size + envid.size + mode.size ≤ 2000
  · rw [decide_eq_true h1]
    by_cases h2 : nt.size + kd.size + oc.size ≤ 2000
    · rw [decide_eq_true h2]
      have d1 : decide ((body.size : Int) + ret.size + envid.size + mode.size ≤ 2000) = true := decide_eq_true (by omega)
      have d2 : decide ((nt.size : Int) + kd.size + oc.size ≤ 2000) = true := decide_eq_true (by omega)
      go_enter Tryz.func8, Tryz.ntmps8
      go_wp2
      go_ret
      exact ⟨rfl, ((Below.refl _ _).alloc (Nat.le_refl _) _).alloc (by simp) _⟩
    · rw [decide_eq_false h2]
      have d1 : decide ((body.size : Int) + ret.size + envid.size + mode.size ≤ 2000) = true := decide_eq_true (by omega)
      have d2 : decide ((nt.size : Int) + kd.size + oc.size ≤ 2000) = false := decide_eq_false (by omega)
      go_enter Tryz.func8, Tryz.ntmps8
      go_wp2
      go_ret
      exact ⟨rfl, ((Below.refl _ _).alloc (Nat.le_refl _) _).alloc (by simp) _⟩
  · rw [decide_eq_false h1]
    have d1 : decide ((body.size : Int) + ret.size + envid.size + mode.size ≤ 2000) = false := decide_eq_false (by omega)
    go_enter Tryz.func8, Tryz.ntmps8
    go_wp2
    go_ret
    exact ⟨rfl, ((Below.refl _ _).alloc (Nat.le_refl _) _).alloc (by simp) _⟩
theorem neq_ml (m : Ml) (w : World) (a : Act) (o : Oper) (x y : Operand) (t' : TypeId) (ho : o.op = .binOp .neq 25 x y t') (hx : a.eval x = .agg m.cells) (hy : a.eval y = .agg m.cells) : (execOp a.eval o).run Tryz.prog w = .ok (.value (.bool false)) w := by
  obtain ⟨hS, hF, hU, hB, hP, s, f, u, b, p, body, ret, envid, mode⟩ := m
  simp only [execOp, ho, hx, hy]
  unfold Ml.cells
  go_simp
theorem neq_rc (m : Rc) (w : World) (a : Act) (o : Oper) (x y : Operand) (t' : TypeId) (ho : o.op = .binOp .neq 27 x y t') (hx : a.eval x = .agg m.cells) (hy : a.eval y = .agg m.cells) : (execOp a.eval o).run Tryz.prog w = .ok (.value (.bool false)) w := by
  obtain ⟨nt, kd, oc⟩ := m
  simp only [execOp, ho, hx, hy]
  unfold Rc.cells
  go_simp
section
variable {P : Program} {ops : Array Oper} {rest : List Oper} {o : Oper} {a : Act} {w : World} {Q : Exit → Act → World → Prop}
theorem step_value_g (hw : Region.wanted o (yielded ops a.tmps) = true) (v : Value) (hrun : (execOp a.eval o).run P w = .ok (.value v) w) (h : wpList P ops Q rest (a.put o.dst v) w) : wpList P ops Q (o :: rest) a w := by
  refine wpList_step fun K hK => ?_
  rw [if_pos hw]
  unfold Oper.wp
  rw [hrun]
  exact hK _ _ h
end
end Go.Proofs.YtfffdbjfhdkheaaGreatDoor
