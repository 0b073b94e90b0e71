/-
  Walks of the package judge: judge.Alarm (judge.Alarm).
-/
import Derived.Test.YtojmcejkfeaccaaJdTry0
import Derived.RegionTactic
import Derived.BigRegion
import Derived.Deep.RegionHeld3
set_option linter.unusedVariables false
set_option linter.unusedSimpArgs false
namespace Go.Proofs.Ytojmcejkfeaccaa
open Go.RowKit JdLaw
set_option maxRecDepth 100000
/-- What lies in memory while judge.Alarm runs. -/
structure PassV (w : World) (b mo li wa : Int) (m : JdMsg.Msg) (pl : Int) (st : ByteArray) (tr nx td : Int) (w' : World) : Prop where
  plan : Blk w' w.heap.size #[.int .i64 b, .int .i64 mo, .int .i64 li, .int .i64 wa] 23
  msg : Blk w' (w.heap.size + 1) (mcs m) 42
  sta : Blk w' (w.heap.size + 1 + 1) #[.int .i64 pl, .string st, .int .i64 tr, .int .i64 nx, .int .i64 td] 44
  low : Below w.heap.size w w'
theorem PassV.start (w : World) (b mo li wa : Int) (m : JdMsg.Msg) (pl : Int) (st : ByteArray) (tr nx td : Int) :
    PassV w b mo li wa m pl st tr nx td (((w.alloc (.cells #[.int .i64 b, .int .i64 mo, .int .i64 li, .int .i64 wa] 23)).alloc (.cells (mcs m) 42)).alloc (.cells #[.int .i64 pl, .string st, .int .i64 tr, .int .i64 nx, .int .i64 td] 44)) := by
  have b0 := Blk.new (w := w) #[.int .i64 b, .int .i64 mo, .int .i64 li, .int .i64 wa] 23
  have b1 := Blk.new (w := w.alloc (.cells #[.int .i64 b, .int .i64 mo, .int .i64 li, .int .i64 wa] 23)) (mcs m) 42
  have b2 := Blk.new (w := (w.alloc (.cells #[.int .i64 b, .int .i64 mo, .int .i64 li, .int .i64 wa] 23)).alloc (.cells (mcs m) 42)) #[.int .i64 pl, .string st, .int .i64 tr, .int .i64 nx, .int .i64 td] 44
  simp only [World.size_alloc] at b1 b2
  exact ⟨(b0.old _).old _, b1.old _, b2, (((Below.refl _ _).alloc (Nat.le_refl _) _).alloc (by simp) _).alloc (by simp; omega) _⟩
theorem PassV.next {w : World} {b mo li wa : Int} {m : JdMsg.Msg} {pl : Int} {st : ByteArray} {tr nx td : Int} {w1 w2 : World} (h : PassV w b mo li wa m pl st tr nx td w1) (hb : Below w1.heap.size w1 w2) : PassV w b mo li wa m pl st tr nx td w2 :=
  ⟨h.plan.below hb, h.msg.below hb, h.sta.below hb, Below.next h.low hb (Nat.le_refl _)⟩
theorem PassV.drew {w : World} {b mo li wa : Int} {m : JdMsg.Msg} {pl : Int} {st : ByteArray} {tr nx td : Int} {w1 : World} (h : PassV w b mo li wa m pl st tr nx td w1) : PassV w b mo li wa m pl st tr nx td w1.drew := ⟨h.plan, h.msg, h.sta, ⟨h.low.os, h.low.tape, h.low.output, h.low.size, h.low.block⟩⟩
/-- A whole struct yields the same in every world that S speaks of. -/
theorem yields_blk {ops : Array Oper} {S : World → Prop} {op : Oper} {a : Act} (b : Nat) (ty : TypeId) (x : Operand) (cs : Array Value) (t : TypeId) (d : TypeDesc) (hw : Region.wanted op (yielded ops a.tmps) = true) (ho : op.op = .load ty x)
    (hx : a.eval x = .pointer (some ⟨b, 0, none⟩)) (hS : ∀ w, S w → Blk w b cs t) (hu : Try.prog.underlying ty = some d) (hd : d.isRow = true) (hi : (Try.prog.info? ty).map (·.size) = some cs.size) : YieldsIf Try.prog ops S op (.agg cs) a := by
  have h := yieldsIf_load_mid (P := Try.prog) hw ty x ho b 0 hx cs.toList d (fun w h j v hv => by have := (hS w h).cell j v (by simpa using hv); simpa using this) hu hd (by simpa using hi)
  simpa using h
set_option maxHeartbeats 4000000 in
theorem alarm_no (b mo li wa : Int) (m : JdMsg.Msg) (pl : Int) (st : ByteArray) (tr nx td : Int) (w : World)
    (h1 : 0 ≤ m.at_) (h2 : m.at_ ≤ 1099511627776) (h3 : 0 ≤ li) (h4 : li ≤ 1073741824) (h5 : -999999999 ≤ m.by_) (h6 : m.by_ ≤ 999999999) (h9 : 0 ≤ wa) (h10 : wa ≤ 1073741824) (hst : ¬ (st.toList = [82])) (hst1 : (st.toList == [82]) = false) (hst2 : (st.toList != [82]) = true) :
    Calls Try.prog 13 #[.agg #[.int .i64 b, .int .i64 mo, .int .i64 li, .int .i64 wa], .agg (mcs m), .agg #[.int .i64 pl, .string st, .int .i64 tr, .int .i64 nx, .int .i64 td]] w fun e w' => e = .returned (.int .i64 0) ∧ Below w.heap.size w w' := by
  have PW := Aside.mk (PassV.start w b mo li wa m pl st tr nx td)
  go_enter Try.func13, Try.ntmps13
  go_wp2
  go_ret
  exact ⟨rfl, PW.out.low⟩
set_option maxHeartbeats 4000000 in
theorem alarm_fo (b mo li wa : Int) (m : JdMsg.Msg) (pl : Int) (st : ByteArray) (tr nx td : Int) (w : World)
    (h1 : 0 ≤ m.at_) (h2 : m.at_ ≤ 1099511627776) (h3 : 0 ≤ li) (h4 : li ≤ 1073741824) (h5 : -999999999 ≤ m.by_) (h6 : m.by_ ≤ 999999999) (h9 : 0 ≤ wa) (h10 : wa ≤ 1073741824) (hst1 : Hid ((st.toList == [82]) = true)) (hst2 : Hid ((st.toList != [82]) = false)) (hby : Hid (m.hby = false)) (ho : Hid ((bits .and .i64 td 1 == 0) = true)) :
    Calls Try.prog 13 #[.agg #[.int .i64 b, .int .i64 mo, .int .i64 li, .int .i64 wa], .agg (mcs m), .agg #[.int .i64 pl, .string st, .int .i64 tr, .int .i64 nx, .int .i64 td]] w fun e w' => e = .returned (.int .i64 (min (min nx (m.at_ + li)) (m.at_ + wa))) ∧ Below w.heap.size w w' := by
  have PW := Aside.mk (PassV.start w b mo li wa m pl st tr nx td)
  have hq1 := hst1.out
  have hq2 := hst2.out
  go_enter Try.func13, Try.ntmps13
  go_wp2
  refine wp_region_held_drew (S := PassV w b mo li wa m pl st tr nx td) (by kernel_rfl) PW.out.drew (fun hS0_ => ?_)
  refine wpAnyH_take (i := 0) (oi := { dst := some 14, op := Go.Op.fieldAddr 44 (Go.Operand.tmp 5) 3, type := 0, pos := "judge.go:145", after := #[], guard := none }) (v := ?_) rfl (by kernel_rfl) (by kernel_rfl) (by kernel_rfl) (fun _ _ _ h => h) (Or.inl ⟨by rfl, ?_⟩) hS0_ ?_
  rotate_left
  · (intro w_ hSw_; first | (go_simp; done) | (go_simp; with_reducible rfl))
  try simp only [Act.put, List.setIfInBounds_toArray, List.set_cons_zero, List.set_cons_succ]
  refine wpAnyH_take (i := 1) (oi := { dst := some 15, op := Go.Op.load 3 (Go.Operand.tmp 14), type := 3, pos := "judge.go:145", after := #[{ on := 0, ground := Go.Ground.data }], guard := none }) (v := ?_) rfl (by kernel_rfl) (by kernel_rfl) (by kernel_rfl) (fun _ _ _ h => h) (Or.inl ⟨by rfl, ?_⟩) hS0_ ?_
  rotate_left
  · (intro w_ hSw_; have hc_ := hSw_.sta.cell 3 _ rfl; first | (go_simp; done) | (go_simp; with_reducible rfl))
  try simp only [Act.put, List.setIfInBounds_toArray, List.set_cons_zero, List.set_cons_succ]
  refine' wpAnyH_take (i := 2) (oi := { dst := some 16, op := Go.Op.load 23 (Go.Operand.tmp 3), type := 23, pos := "judge.go:145", after := #[], guard := none }) (v := _) rfl (by kernel_rfl) (by kernel_rfl) (by kernel_rfl) (fun _ _ _ h => h) (yields_blk (S := PassV w b mo li wa m pl st tr nx td) (w.heap.size) 23 _ #[.int .i64 b, .int .i64 mo, .int .i64 li, .int .i64 wa] 23 _ (by rfl) (by rfl) (by rfl) (fun _ h_ => h_.plan) Try.underlying23 rfl (by kernel_rfl)) hS0_ ?_
  try simp only [Act.put, List.setIfInBounds_toArray, List.set_cons_zero, List.set_cons_succ]
  refine' wpAnyH_take (i := 3) (oi := { dst := some 17, op := Go.Op.load 42 (Go.Operand.tmp 4), type := 42, pos := "judge.go:145", after := #[], guard := none }) (v := _) rfl (by kernel_rfl) (by kernel_rfl) (by kernel_rfl) (fun _ _ _ h => h) (yields_blk (S := PassV w b mo li wa m pl st tr nx td) (w.heap.size + 1) 42 _ (mcs m) 42 _ (by rfl) (by rfl) (by rfl) (fun _ h_ => h_.msg) Try.underlying42 rfl (by kernel_rfl)) hS0_ ?_
  try simp only [Act.put, List.setIfInBounds_toArray, List.set_cons_zero, List.set_cons_succ]
  refine wpAnyH_ready (rs := [4]) (by kernel_rfl) (by simp) ?_
  refine AllReadyH.cons rfl (fun K hK => ?_) ?_
  ·
    go_simp
    go_wp2_with ((go_at_call 12; refine (expires_m b mo li wa m _ h1 h2 h3 h4).mono ?_; rintro e w1 ⟨rfl, hb1⟩))
    refine hK.out _ _ (hS0_.next hb1) (fun hS1_ => ?_)
    clear hK
    refine wpAnyH_take (i := 5) (oi := { dst := some 19, op := Go.Op.call { callee := Go.Callee.builtin Go.Builtin.min, args := #[Go.Operand.tmp 15, Go.Operand.tmp 18], argTypes := #[3, 3] }, type := 3, pos := "judge.go:145", after := #[{ on := 1, ground := Go.Ground.data }, { on := 4, ground := Go.Ground.data }], guard := none }) (v := ?_) rfl (by kernel_rfl) (by kernel_rfl) (by kernel_rfl) (fun _ _ _ h => h) (Or.inl ⟨by rfl, ?_⟩) hS1_ ?_
    rotate_left
    · (intro w_ hSw_; first | (go_simp; done) | (go_simp; with_reducible rfl))
    try simp only [Act.put, List.setIfInBounds_toArray, List.set_cons_zero, List.set_cons_succ]
    refine wpAnyH_take (i := 6) (oi := { dst := some 7, op := Go.Op.assign (Go.Operand.tmp 19), type := 3, pos := "judge.go:145", after := #[{ on := 5, ground := Go.Ground.data }, { on := 4, ground := Go.Ground.chain }, { on := 0, ground := Go.Ground.phase }, { on := 1, ground := Go.Ground.phase }, { on := 2, ground := Go.Ground.phase }, { on := 3, ground := Go.Ground.phase }, { on := 4, ground := Go.Ground.phase }, { on := 5, ground := Go.Ground.phase }], guard := none }) (v := ?_) rfl (by kernel_rfl) (by kernel_rfl) (by kernel_rfl) (fun _ _ _ h => h) (Or.inl ⟨by rfl, ?_⟩) hS1_ ?_
    rotate_left
    · (intro w_ hSw_; first | (go_simp; done) | (go_simp; with_reducible rfl))
    try simp only [Act.put, List.setIfInBounds_toArray, List.set_cons_zero, List.set_cons_succ]
    refine wpAnyH_done (by kernel_rfl) ?_ _
    replace PW := Aside.mk hS1_
    clear hS1_
    have s4 := PW.out.sta.cell 4 _ rfl
    have p3 := PW.out.plan.cell 3 _ rfl
    have m1 := PW.out.msg.cell 1 (.int .i64 m.at_) rfl
    have ho1 := ho.out
    go_wp2_with (first
          | (with_reducible refine load_blk (w.heap.size + 1) 42 rfl _ rfl rfl (mcs m) 42 _ PW.out.msg Try.underlying42 rfl (by kernel_rfl) ?_; simp only [Act.put, List.setIfInBounds_toArray, List.set_cons_zero, List.set_cons_succ])
          | (go_at_call 10; refine (deadline_m m _ h1 h2 h5 h6).mono ?_; rw [hby.out]; rintro e w2 ⟨rfl, hb2⟩; replace PW := Aside.mk (PW.out.next hb2); clear hb2 s4 p3 m1; have s4 := PW.out.sta.cell 4 _ rfl; have p3 := PW.out.plan.cell 3 _ rfl; have m1 := PW.out.msg.cell 1 (.int .i64 m.at_) rfl))
    go_ret
    exact ⟨by first | rfl | (simp; done) | (simp; omega), PW.out.low⟩
  exact AllReadyH.nil
set_option maxHeartbeats 4000000 in
theorem alarm_fc (b mo li wa : Int) (m : JdMsg.Msg) (pl : Int) (st : ByteArray) (tr nx td : Int) (w : World)
    (h1 : 0 ≤ m.at_) (h2 : m.at_ ≤ 1099511627776) (h3 : 0 ≤ li) (h4 : li ≤ 1073741824) (h5 : -999999999 ≤ m.by_) (h6 : m.by_ ≤ 999999999) (h9 : 0 ≤ wa) (h10 : wa ≤ 1073741824) (hst1 : Hid ((st.toList == [82]) = true)) (hst2 : Hid ((st.toList != [82]) = false)) (hby : Hid (m.hby = false)) (ho : Hid ((bits .and .i64 td 1 == 0) = false)) :
    Calls Try.prog 13 #[.agg #[.int .i64 b, .int .i64 mo, .int .i64 li, .int .i64 wa], .agg (mcs m), .agg #[.int .i64 pl, .string st, .int .i64 tr, .int .i64 nx, .int .i64 td]] w fun e w' => e = .returned (.int .i64 (min nx (m.at_ + li))) ∧ Below w.heap.size w w' := by
  have PW := Aside.mk (PassV.start w b mo li wa m pl st tr nx td)
  have hq1 := hst1.out
  have hq2 := hst2.out
  go_enter Try.func13, Try.ntmps13
  go_wp2
  refine wp_region_held_drew (S := PassV w b mo li wa m pl st tr nx td) (by kernel_rfl) PW.out.drew (fun hS0_ => ?_)
  refine wpAnyH_take (i := 0) (oi := { dst := some 14, op := Go.Op.fieldAddr 44 (Go.Operand.tmp 5) 3, type := 0, pos := "judge.go:145", after := #[], guard := none }) (v := ?_) rfl (by kernel_rfl) (by kernel_rfl) (by kernel_rfl) (fun _ _ _ h => h) (Or.inl ⟨by rfl, ?_⟩) hS0_ ?_
  rotate_left
  · (intro w_ hSw_; first | (go_simp; done) | (go_simp; with_reducible rfl))
  try simp only [Act.put, List.setIfInBounds_toArray, List.set_cons_zero, List.set_cons_succ]
  refine wpAnyH_take (i := 1) (oi := { dst := some 15, op := Go.Op.load 3 (Go.Operand.tmp 14), type := 3, pos := "judge.go:145", after := #[{ on := 0, ground := Go.Ground.data }], guard := none }) (v := ?_) rfl (by kernel_rfl) (by kernel_rfl) (by kernel_rfl) (fun _ _ _ h => h) (Or.inl ⟨by rfl, ?_⟩) hS0_ ?_
  rotate_left
  · (intro w_ hSw_; have hc_ := hSw_.sta.cell 3 _ rfl; first | (go_simp; done) | (go_simp; with_reducible rfl))
  try simp only [Act.put, List.setIfInBounds_toArray, List.set_cons_zero, List.set_cons_succ]
  refine' wpAnyH_take (i := 2) (oi := { dst := some 16, op := Go.Op.load 23 (Go.Operand.tmp 3), type := 23, pos := "judge.go:145", after := #[], guard := none }) (v := _) rfl (by kernel_rfl) (by kernel_rfl) (by kernel_rfl) (fun _ _ _ h => h) (yields_blk (S := PassV w b mo li wa m pl st tr nx td) (w.heap.size) 23 _ #[.int .i64 b, .int .i64 mo, .int .i64 li, .int .i64 wa] 23 _ (by rfl) (by rfl) (by rfl) (fun _ h_ => h_.plan) Try.underlying23 rfl (by kernel_rfl)) hS0_ ?_
  try simp only [Act.put, List.setIfInBounds_toArray, List.set_cons_zero, List.set_cons_succ]
  refine' wpAnyH_take (i := 3) (oi := { dst := some 17, op := Go.Op.load 42 (Go.Operand.tmp 4), type := 42, pos := "judge.go:145", after := #[], guard := none }) (v := _) rfl (by kernel_rfl) (by kernel_rfl) (by kernel_rfl) (fun _ _ _ h => h) (yields_blk (S := PassV w b mo li wa m pl st tr nx td) (w.heap.size + 1) 42 _ (mcs m) 42 _ (by rfl) (by rfl) (by rfl) (fun _ h_ => h_.msg) Try.underlying42 rfl (by kernel_rfl)) hS0_ ?_
  try simp only [Act.put, List.setIfInBounds_toArray, List.set_cons_zero, List.set_cons_succ]
  refine wpAnyH_ready (rs := [4]) (by kernel_rfl) (by simp) ?_
  refine AllReadyH.cons rfl (fun K hK => ?_) ?_
  ·
    go_simp
    go_wp2_with ((go_at_call 12; refine (expires_m b mo li wa m _ h1 h2 h3 h4).mono ?_; rintro e w1 ⟨rfl, hb1⟩))
    refine hK.out _ _ (hS0_.next hb1) (fun hS1_ => ?_)
    clear hK
    refine wpAnyH_take (i := 5) (oi := { dst := some 19, op := Go.Op.call { callee := Go.Callee.builtin Go.Builtin.min, args := #[Go.Operand.tmp 15, Go.Operand.tmp 18], argTypes := #[3, 3] }, type := 3, pos := "judge.go:145", after := #[{ on := 1, ground := Go.Ground.data }, { on := 4, ground := Go.Ground.data }], guard := none }) (v := ?_) rfl (by kernel_rfl) (by kernel_rfl) (by kernel_rfl) (fun _ _ _ h => h) (Or.inl ⟨by rfl, ?_⟩) hS1_ ?_
    rotate_left
    · (intro w_ hSw_; first | (go_simp; done) | (go_simp; with_reducible rfl))
    try simp only [Act.put, List.setIfInBounds_toArray, List.set_cons_zero, List.set_cons_succ]
    refine wpAnyH_take (i := 6) (oi := { dst := some 7, op := Go.Op.assign (Go.Operand.tmp 19), type := 3, pos := "judge.go:145", after := #[{ on := 5, ground := Go.Ground.data }, { on := 4, ground := Go.Ground.chain }, { on := 0, ground := Go.Ground.phase }, { on := 1, ground := Go.Ground.phase }, { on := 2, ground := Go.Ground.phase }, { on := 3, ground := Go.Ground.phase }, { on := 4, ground := Go.Ground.phase }, { on := 5, ground := Go.Ground.phase }], guard := none }) (v := ?_) rfl (by kernel_rfl) (by kernel_rfl) (by kernel_rfl) (fun _ _ _ h => h) (Or.inl ⟨by rfl, ?_⟩) hS1_ ?_
    rotate_left
    · (intro w_ hSw_; first | (go_simp; done) | (go_simp; with_reducible rfl))
    try simp only [Act.put, List.setIfInBounds_toArray, List.set_cons_zero, List.set_cons_succ]
    refine wpAnyH_done (by kernel_rfl) ?_ _
    replace PW := Aside.mk hS1_
    clear hS1_
    have s4 := PW.out.sta.cell 4 _ rfl
    have p3 := PW.out.plan.cell 3 _ rfl
    have m1 := PW.out.msg.cell 1 (.int .i64 m.at_) rfl
    have ho1 := ho.out
    go_wp2_with (first
          | (with_reducible refine load_blk (w.heap.size + 1) 42 rfl _ rfl rfl (mcs m) 42 _ PW.out.msg Try.underlying42 rfl (by kernel_rfl) ?_; simp only [Act.put, List.setIfInBounds_toArray, List.set_cons_zero, List.set_cons_succ])
          | (go_at_call 10; refine (deadline_m m _ h1 h2 h5 h6).mono ?_; rw [hby.out]; rintro e w2 ⟨rfl, hb2⟩; replace PW := Aside.mk (PW.out.next hb2); clear hb2 s4 p3 m1; have s4 := PW.out.sta.cell 4 _ rfl; have p3 := PW.out.plan.cell 3 _ rfl; have m1 := PW.out.msg.cell 1 (.int .i64 m.at_) rfl))
    go_ret
    exact ⟨by first | rfl | (simp; done) | (simp; omega), PW.out.low⟩
  exact AllReadyH.nil
set_option maxHeartbeats 4000000 in
theorem alarm_to (b mo li wa : Int) (m : JdMsg.Msg) (pl : Int) (st : ByteArray) (tr nx td : Int) (w : World)
    (h1 : 0 ≤ m.at_) (h2 : m.at_ ≤ 1099511627776) (h3 : 0 ≤ li) (h4 : li ≤ 1073741824) (h5 : -999999999 ≤ m.by_) (h6 : m.by_ ≤ 999999999) (h9 : 0 ≤ wa) (h10 : wa ≤ 1073741824) (hst1 : Hid ((st.toList == [82]) = true)) (hst2 : Hid ((st.toList != [82]) = false)) (hby : Hid (m.hby = true)) (ho : Hid ((bits .and .i64 td 1 == 0) = true)) :
    Calls Try.prog 13 #[.agg #[.int .i64 b, .int .i64 mo, .int .i64 li, .int .i64 wa], .agg (mcs m), .agg #[.int .i64 pl, .string st, .int .i64 tr, .int .i64 nx, .int .i64 td]] w fun e w' => e = .returned (.int .i64 (min (min (min nx (m.at_ + li)) (m.at_ + m.by_)) (m.at_ + wa))) ∧ Below w.heap.size w w' := by
  have PW := Aside.mk (PassV.start w b mo li wa m pl st tr nx td)
  have hq1 := hst1.out
  have hq2 := hst2.out
  go_enter Try.func13, Try.ntmps13
  go_wp2
  refine wp_region_held_drew (S := PassV w b mo li wa m pl st tr nx td) (by kernel_rfl) PW.out.drew (fun hS0_ => ?_)
  refine wpAnyH_take (i := 0) (oi := { dst := some 14, op := Go.Op.fieldAddr 44 (Go.Operand.tmp 5) 3, type := 0, pos := "judge.go:145", after := #[], guard := none }) (v := ?_) rfl (by kernel_rfl) (by kernel_rfl) (by kernel_rfl) (fun _ _ _ h => h) (Or.inl ⟨by rfl, ?_⟩) hS0_ ?_
  rotate_left
  · (intro w_ hSw_; first | (go_simp; done) | (go_simp; with_reducible rfl))
  try simp only [Act.put, List.setIfInBounds_toArray, List.set_cons_zero, List.set_cons_succ]
  refine wpAnyH_take (i := 1) (oi := { dst := some 15, op := Go.Op.load 3 (Go.Operand.tmp 14), type := 3, pos := "judge.go:145", after := #[{ on := 0, ground := Go.Ground.data }], guard := none }) (v := ?_) rfl (by kernel_rfl) (by kernel_rfl) (by kernel_rfl) (fun _ _ _ h => h) (Or.inl ⟨by rfl, ?_⟩) hS0_ ?_
  rotate_left
  · (intro w_ hSw_; have hc_ := hSw_.sta.cell 3 _ rfl; first | (go_simp; done) | (go_simp; with_reducible rfl))
  try simp only [Act.put, List.setIfInBounds_toArray, List.set_cons_zero, List.set_cons_succ]
  refine' wpAnyH_take (i := 2) (oi := { dst := some 16, op := Go.Op.load 23 (Go.Operand.tmp 3), type := 23, pos := "judge.go:145", after := #[], guard := none }) (v := _) rfl (by kernel_rfl) (by kernel_rfl) (by kernel_rfl) (fun _ _ _ h => h) (yields_blk (S := PassV w b mo li wa m pl st tr nx td) (w.heap.size) 23 _ #[.int .i64 b, .int .i64 mo, .int .i64 li, .int .i64 wa] 23 _ (by rfl) (by rfl) (by rfl) (fun _ h_ => h_.plan) Try.underlying23 rfl (by kernel_rfl)) hS0_ ?_
  try simp only [Act.put, List.setIfInBounds_toArray, List.set_cons_zero, List.set_cons_succ]
  refine' wpAnyH_take (i := 3) (oi := { dst := some 17, op := Go.Op.load 42 (Go.Operand.tmp 4), type := 42, pos := "judge.go:145", after := #[], guard := none }) (v := _) rfl (by kernel_rfl) (by kernel_rfl) (by kernel_rfl) (fun _ _ _ h => h) (yields_blk (S := PassV w b mo li wa m pl st tr nx td) (w.heap.size + 1) 42 _ (mcs m) 42 _ (by rfl) (by rfl) (by rfl) (fun _ h_ => h_.msg) Try.underlying42 rfl (by kernel_rfl)) hS0_ ?_
  try simp only [Act.put, List.setIfInBounds_toArray, List.set_cons_zero, List.set_cons_succ]
  refine wpAnyH_ready (rs := [4]) (by kernel_rfl) (by simp) ?_
  refine AllReadyH.cons rfl (fun K hK => ?_) ?_
  ·
    go_simp
    go_wp2_with ((go_at_call 12; refine (expires_m b mo li wa m _ h1 h2 h3 h4).mono ?_; rintro e w1 ⟨rfl, hb1⟩))
    refine hK.out _ _ (hS0_.next hb1) (fun hS1_ => ?_)
    clear hK
    refine wpAnyH_take (i := 5) (oi := { dst := some 19, op := Go.Op.call { callee := Go.Callee.builtin Go.Builtin.min, args := #[Go.Operand.tmp 15, Go.Operand.tmp 18], argTypes := #[3, 3] }, type := 3, pos := "judge.go:145", after := #[{ on := 1, ground := Go.Ground.data }, { on := 4, ground := Go.Ground.data }], guard := none }) (v := ?_) rfl (by kernel_rfl) (by kernel_rfl) (by kernel_rfl) (fun _ _ _ h => h) (Or.inl ⟨by rfl, ?_⟩) hS1_ ?_
    rotate_left
    · (intro w_ hSw_; first | (go_simp; done) | (go_simp; with_reducible rfl))
    try simp only [Act.put, List.setIfInBounds_toArray, List.set_cons_zero, List.set_cons_succ]
    refine wpAnyH_take (i := 6) (oi := { dst := some 7, op := Go.Op.assign (Go.Operand.tmp 19), type := 3, pos := "judge.go:145", after := #[{ on := 5, ground := Go.Ground.data }, { on := 4, ground := Go.Ground.chain }, { on := 0, ground := Go.Ground.phase }, { on := 1, ground := Go.Ground.phase }, { on := 2, ground := Go.Ground.phase }, { on := 3, ground := Go.Ground.phase }, { on := 4, ground := Go.Ground.phase }, { on := 5, ground := Go.Ground.phase }], guard := none }) (v := ?_) rfl (by kernel_rfl) (by kernel_rfl) (by kernel_rfl) (fun _ _ _ h => h) (Or.inl ⟨by rfl, ?_⟩) hS1_ ?_
    rotate_left
    · (intro w_ hSw_; first | (go_simp; done) | (go_simp; with_reducible rfl))
    try simp only [Act.put, List.setIfInBounds_toArray, List.set_cons_zero, List.set_cons_succ]
    refine wpAnyH_done (by kernel_rfl) ?_ _
    replace PW := Aside.mk hS1_
    clear hS1_
    have s4 := PW.out.sta.cell 4 _ rfl
    have p3 := PW.out.plan.cell 3 _ rfl
    have m1 := PW.out.msg.cell 1 (.int .i64 m.at_) rfl
    have ho1 := ho.out
    go_wp2_with (first
          | (with_reducible refine load_blk (w.heap.size + 1) 42 rfl _ rfl rfl (mcs m) 42 _ PW.out.msg Try.underlying42 rfl (by kernel_rfl) ?_; simp only [Act.put, List.setIfInBounds_toArray, List.set_cons_zero, List.set_cons_succ])
          | (go_at_call 10; refine (deadline_m m _ h1 h2 h5 h6).mono ?_; rw [hby.out]; rintro e w2 ⟨rfl, hb2⟩; replace PW := Aside.mk (PW.out.next hb2); clear hb2 s4 p3 m1; have s4 := PW.out.sta.cell 4 _ rfl; have p3 := PW.out.plan.cell 3 _ rfl; have m1 := PW.out.msg.cell 1 (.int .i64 m.at_) rfl))
    go_ret
    exact ⟨by first | rfl | (simp; done) | (simp; omega), PW.out.low⟩
  exact AllReadyH.nil
set_option maxHeartbeats 4000000 in
theorem alarm_tr (b mo li wa : Int) (m : JdMsg.Msg) (pl : Int) (st : ByteArray) (tr nx td : Int) (w : World)
    (h1 : 0 ≤ m.at_) (h2 : m.at_ ≤ 1099511627776) (h3 : 0 ≤ li) (h4 : li ≤ 1073741824) (h5 : -999999999 ≤ m.by_) (h6 : m.by_ ≤ 999999999) (h9 : 0 ≤ wa) (h10 : wa ≤ 1073741824) (hst1 : Hid ((st.toList == [82]) = true)) (hst2 : Hid ((st.toList != [82]) = false)) (hby : Hid (m.hby = true)) (ho : Hid ((bits .and .i64 td 1 == 0) = false)) (hr : Hid (Lib.hasPrefix m.mode.data.toList [82] = true)) :
    Calls Try.prog 13 #[.agg #[.int .i64 b, .int .i64 mo, .int .i64 li, .int .i64 wa], .agg (mcs m), .agg #[.int .i64 pl, .string st, .int .i64 tr, .int .i64 nx, .int .i64 td]] w fun e w' => e = .returned (.int .i64 (min (min nx (m.at_ + li)) (m.at_ + m.by_))) ∧ Below w.heap.size w w' := by
  have PW := Aside.mk (PassV.start w b mo li wa m pl st tr nx td)
  have hq1 := hst1.out
  have hq2 := hst2.out
  go_enter Try.func13, Try.ntmps13
  go_wp2
  refine wp_region_held_drew (S := PassV w b mo li wa m pl st tr nx td) (by kernel_rfl) PW.out.drew (fun hS0_ => ?_)
  refine wpAnyH_take (i := 0) (oi := { dst := some 14, op := Go.Op.fieldAddr 44 (Go.Operand.tmp 5) 3, type := 0, pos := "judge.go:145", after := #[], guard := none }) (v := ?_) rfl (by kernel_rfl) (by kernel_rfl) (by kernel_rfl) (fun _ _ _ h => h) (Or.inl ⟨by rfl, ?_⟩) hS0_ ?_
  rotate_left
  · (intro w_ hSw_; first | (go_simp; done) | (go_simp; with_reducible rfl))
  try simp only [Act.put, List.setIfInBounds_toArray, List.set_cons_zero, List.set_cons_succ]
  refine wpAnyH_take (i := 1) (oi := { dst := some 15, op := Go.Op.load 3 (Go.Operand.tmp 14), type := 3, pos := "judge.go:145", after := #[{ on := 0, ground := Go.Ground.data }], guard := none }) (v := ?_) rfl (by kernel_rfl) (by kernel_rfl) (by kernel_rfl) (fun _ _ _ h => h) (Or.inl ⟨by rfl, ?_⟩) hS0_ ?_
  rotate_left
  · (intro w_ hSw_; have hc_ := hSw_.sta.cell 3 _ rfl; first | (go_simp; done) | (go_simp; with_reducible rfl))
  try simp only [Act.put, List.setIfInBounds_toArray, List.set_cons_zero, List.set_cons_succ]
  refine' wpAnyH_take (i := 2) (oi := { dst := some 16, op := Go.Op.load 23 (Go.Operand.tmp 3), type := 23, pos := "judge.go:145", after := #[], guard := none }) (v := _) rfl (by kernel_rfl) (by kernel_rfl) (by kernel_rfl) (fun _ _ _ h => h) (yields_blk (S := PassV w b mo li wa m pl st tr nx td) (w.heap.size) 23 _ #[.int .i64 b, .int .i64 mo, .int .i64 li, .int .i64 wa] 23 _ (by rfl) (by rfl) (by rfl) (fun _ h_ => h_.plan) Try.underlying23 rfl (by kernel_rfl)) hS0_ ?_
  try simp only [Act.put, List.setIfInBounds_toArray, List.set_cons_zero, List.set_cons_succ]
  refine' wpAnyH_take (i := 3) (oi := { dst := some 17, op := Go.Op.load 42 (Go.Operand.tmp 4), type := 42, pos := "judge.go:145", after := #[], guard := none }) (v := _) rfl (by kernel_rfl) (by kernel_rfl) (by kernel_rfl) (fun _ _ _ h => h) (yields_blk (S := PassV w b mo li wa m pl st tr nx td) (w.heap.size + 1) 42 _ (mcs m) 42 _ (by rfl) (by rfl) (by rfl) (fun _ h_ => h_.msg) Try.underlying42 rfl (by kernel_rfl)) hS0_ ?_
  try simp only [Act.put, List.setIfInBounds_toArray, List.set_cons_zero, List.set_cons_succ]
  refine wpAnyH_ready (rs := [4]) (by kernel_rfl) (by simp) ?_
  refine AllReadyH.cons rfl (fun K hK => ?_) ?_
  ·
    go_simp
    go_wp2_with ((go_at_call 12; refine (expires_m b mo li wa m _ h1 h2 h3 h4).mono ?_; rintro e w1 ⟨rfl, hb1⟩))
    refine hK.out _ _ (hS0_.next hb1) (fun hS1_ => ?_)
    clear hK
    refine wpAnyH_take (i := 5) (oi := { dst := some 19, op := Go.Op.call { callee := Go.Callee.builtin Go.Builtin.min, args := #[Go.Operand.tmp 15, Go.Operand.tmp 18], argTypes := #[3, 3] }, type := 3, pos := "judge.go:145", after := #[{ on := 1, ground := Go.Ground.data }, { on := 4, ground := Go.Ground.data }], guard := none }) (v := ?_) rfl (by kernel_rfl) (by kernel_rfl) (by kernel_rfl) (fun _ _ _ h => h) (Or.inl ⟨by rfl, ?_⟩) hS1_ ?_
    rotate_left
    · (intro w_ hSw_; first | (go_simp; done) | (go_simp; with_reducible rfl))
    try simp only [Act.put, List.setIfInBounds_toArray, List.set_cons_zero, List.set_cons_succ]
    refine wpAnyH_take (i := 6) (oi := { dst := some 7, op := Go.Op.assign (Go.Operand.tmp 19), type := 3, pos := "judge.go:145", after := #[{ on := 5, ground := Go.Ground.data }, { on := 4, ground := Go.Ground.chain }, { on := 0, ground := Go.Ground.phase }, { on := 1, ground := Go.Ground.phase }, { on := 2, ground := Go.Ground.phase }, { on := 3, ground := Go.Ground.phase }, { on := 4, ground := Go.Ground.phase }, { on := 5, ground := Go.Ground.phase }], guard := none }) (v := ?_) rfl (by kernel_rfl) (by kernel_rfl) (by kernel_rfl) (fun _ _ _ h => h) (Or.inl ⟨by rfl, ?_⟩) hS1_ ?_
    rotate_left
    · (intro w_ hSw_; first | (go_simp; done) | (go_simp; with_reducible rfl))
    try simp only [Act.put, List.setIfInBounds_toArray, List.set_cons_zero, List.set_cons_succ]
    refine wpAnyH_done (by kernel_rfl) ?_ _
    replace PW := Aside.mk hS1_
    clear hS1_
    have s4 := PW.out.sta.cell 4 _ rfl
    have p3 := PW.out.plan.cell 3 _ rfl
    have m1 := PW.out.msg.cell 1 (.int .i64 m.at_) rfl
    have ho1 := ho.out
    go_wp2_with (first
          | (with_reducible refine load_blk (w.heap.size + 1) 42 rfl _ rfl rfl (mcs m) 42 _ PW.out.msg Try.underlying42 rfl (by kernel_rfl) ?_; simp only [Act.put, List.setIfInBounds_toArray, List.set_cons_zero, List.set_cons_succ])
          | (go_at_call 10; refine (deadline_m m _ h1 h2 h5 h6).mono ?_; rw [hby.out]; rintro e w2 ⟨rfl, hb2⟩; replace PW := Aside.mk (PW.out.next hb2); clear hb2 s4 p3 m1; have s4 := PW.out.sta.cell 4 _ rfl; have p3 := PW.out.plan.cell 3 _ rfl; have m1 := PW.out.msg.cell 1 (.int .i64 m.at_) rfl; have m5 := PW.out.msg.cell 5 (.bool m.hsz) rfl; have m6 := PW.out.msg.cell 6 (.bool m.hhf) rfl; have m7 := PW.out.msg.cell 7 (.bool m.hhu) rfl; have m8 := PW.out.msg.cell 8 (.bool m.hby) rfl; have m9 := PW.out.msg.cell 9 (.bool m.hpr) rfl; have m10 := PW.out.msg.cell 10 (.int .i64 m.siz) rfl; have m11 := PW.out.msg.cell 11 (.int .i64 m.hfo) rfl; have m12 := PW.out.msg.cell 12 (.int .i64 m.hun) rfl; have m13 := PW.out.msg.cell 13 (.int .i64 m.by_) rfl; have m14 := PW.out.msg.cell 14 (.int .i64 m.pri) rfl; have m15 := PW.out.msg.cell 15 (.string m.body) rfl; have m16 := PW.out.msg.cell 16 (.string m.ret) rfl; have m17 := PW.out.msg.cell 17 (.string m.env) rfl; have m18 := PW.out.msg.cell 18 (.string m.mode) rfl)
          | (go_at_call 18; refine (returns_any m _).mono ?_; rintro e w3 ⟨rfl, hb3⟩; rw [hr.out]; replace PW := Aside.mk (PW.out.next hb3); clear hb3 s4 p3 m1; clear m5; clear m6; clear m7; clear m8; clear m9; clear m10; clear m11; clear m12; clear m13; clear m14; clear m15; clear m16; clear m17; clear m18; have s4 := PW.out.sta.cell 4 _ rfl; have p3 := PW.out.plan.cell 3 _ rfl; have m1 := PW.out.msg.cell 1 (.int .i64 m.at_) rfl))
    go_ret
    exact ⟨by first | rfl | (simp; done) | (simp; omega), PW.out.low⟩
  exact AllReadyH.nil
set_option maxHeartbeats 4000000 in
theorem alarm_tn (b mo li wa : Int) (m : JdMsg.Msg) (pl : Int) (st : ByteArray) (tr nx td : Int) (w : World)
    (h1 : 0 ≤ m.at_) (h2 : m.at_ ≤ 1099511627776) (h3 : 0 ≤ li) (h4 : li ≤ 1073741824) (h5 : -999999999 ≤ m.by_) (h6 : m.by_ ≤ 999999999) (h9 : 0 ≤ wa) (h10 : wa ≤ 1073741824) (hst1 : Hid ((st.toList == [82]) = true)) (hst2 : Hid ((st.toList != [82]) = false)) (hby : Hid (m.hby = true)) (ho : Hid ((bits .and .i64 td 1 == 0) = false)) (hr : Hid (Lib.hasPrefix m.mode.data.toList [82] = false)) :
    Calls Try.prog 13 #[.agg #[.int .i64 b, .int .i64 mo, .int .i64 li, .int .i64 wa], .agg (mcs m), .agg #[.int .i64 pl, .string st, .int .i64 tr, .int .i64 nx, .int .i64 td]] w fun e w' => e = .returned (.int .i64 (min nx (m.at_ + li))) ∧ Below w.heap.size w w' := by
  have PW := Aside.mk (PassV.start w b mo li wa m pl st tr nx td)
  have hq1 := hst1.out
  have hq2 := hst2.out
  go_enter Try.func13, Try.ntmps13
  go_wp2
  refine wp_region_held_drew (S := PassV w b mo li wa m pl st tr nx td) (by kernel_rfl) PW.out.drew (fun hS0_ => ?_)
  refine wpAnyH_take (i := 0) (oi := { dst := some 14, op := Go.Op.fieldAddr 44 (Go.Operand.tmp 5) 3, type := 0, pos := "judge.go:145", after := #[], guard := none }) (v := ?_) rfl (by kernel_rfl) (by kernel_rfl) (by kernel_rfl) (fun _ _ _ h => h) (Or.inl ⟨by rfl, ?_⟩) hS0_ ?_
  rotate_left
  · (intro w_ hSw_; first | (go_simp; done) | (go_simp; with_reducible rfl))
  try simp only [Act.put, List.setIfInBounds_toArray, List.set_cons_zero, List.set_cons_succ]
  refine wpAnyH_take (i := 1) (oi := { dst := some 15, op := Go.Op.load 3 (Go.Operand.tmp 14), type := 3, pos := "judge.go:145", after := #[{ on := 0, ground := Go.Ground.data }], guard := none }) (v := ?_) rfl (by kernel_rfl) (by kernel_rfl) (by kernel_rfl) (fun _ _ _ h => h) (Or.inl ⟨by rfl, ?_⟩) hS0_ ?_
  rotate_left
  · (intro w_ hSw_; have hc_ := hSw_.sta.cell 3 _ rfl; first | (go_simp; done) | (go_simp; with_reducible rfl))
  try simp only [Act.put, List.setIfInBounds_toArray, List.set_cons_zero, List.set_cons_succ]
  refine' wpAnyH_take (i := 2) (oi := { dst := some 16, op := Go.Op.load 23 (Go.Operand.tmp 3), type := 23, pos := "judge.go:145", after := #[], guard := none }) (v := _) rfl (by kernel_rfl) (by kernel_rfl) (by kernel_rfl) (fun _ _ _ h => h) (yields_blk (S := PassV w b mo li wa m pl st tr nx td) (w.heap.size) 23 _ #[.int .i64 b, .int .i64 mo, .int .i64 li, .int .i64 wa] 23 _ (by rfl) (by rfl) (by rfl) (fun _ h_ => h_.plan) Try.underlying23 rfl (by kernel_rfl)) hS0_ ?_
  try simp only [Act.put, List.setIfInBounds_toArray, List.set_cons_zero, List.set_cons_succ]
  refine' wpAnyH_take (i := 3) (oi := { dst := some 17, op := Go.Op.load 42 (Go.Operand.tmp 4), type := 42, pos := "judge.go:145", after := #[], guard := none }) (v := _) rfl (by kernel_rfl) (by kernel_rfl) (by kernel_rfl) (fun _ _ _ h => h) (yields_blk (S := PassV w b mo li wa m pl st tr nx td) (w.heap.size + 1) 42 _ (mcs m) 42 _ (by rfl) (by rfl) (by rfl) (fun _ h_ => h_.msg) Try.underlying42 rfl (by kernel_rfl)) hS0_ ?_
  try simp only [Act.put, List.setIfInBounds_toArray, List.set_cons_zero, List.set_cons_succ]
  refine wpAnyH_ready (rs := [4]) (by kernel_rfl) (by simp) ?_
  refine AllReadyH.cons rfl (fun K hK => ?_) ?_
  ·
    go_simp
    go_wp2_with ((go_at_call 12; refine (expires_m b mo li wa m _ h1 h2 h3 h4).mono ?_; rintro e w1 ⟨rfl, hb1⟩))
    refine hK.out _ _ (hS0_.next hb1) (fun hS1_ => ?_)
    clear hK
    refine wpAnyH_take (i := 5) (oi := { dst := some 19, op := Go.Op.call { callee := Go.Callee.builtin Go.Builtin.min, args := #[Go.Operand.tmp 15, Go.Operand.tmp 18], argTypes := #[3, 3] }, type := 3, pos := "judge.go:145", after := #[{ on := 1, ground := Go.Ground.data }, { on := 4, ground := Go.Ground.data }], guard := none }) (v := ?_) rfl (by kernel_rfl) (by kernel_rfl) (by kernel_rfl) (fun _ _ _ h => h) (Or.inl ⟨by rfl, ?_⟩) hS1_ ?_
    rotate_left
    · (intro w_ hSw_; first | (go_simp; done) | (go_simp; with_reducible rfl))
    try simp only [Act.put, List.setIfInBounds_toArray, List.set_cons_zero, List.set_cons_succ]
    refine wpAnyH_take (i := 6) (oi := { dst := some 7, op := Go.Op.assign (Go.Operand.tmp 19), type := 3, pos := "judge.go:145", after := #[{ on := 5, ground := Go.Ground.data }, { on := 4, ground := Go.Ground.chain }, { on := 0, ground := Go.Ground.phase }, { on := 1, ground := Go.Ground.phase }, { on := 2, ground := Go.Ground.phase }, { on := 3, ground := Go.Ground.phase }, { on := 4, ground := Go.Ground.phase }, { on := 5, ground := Go.Ground.phase }], guard := none }) (v := ?_) rfl (by kernel_rfl) (by kernel_rfl) (by kernel_rfl) (fun _ _ _ h => h) (Or.inl ⟨by rfl, ?_⟩) hS1_ ?_
    rotate_left
    · (intro w_ hSw_; first | (go_simp; done) | (go_simp; with_reducible rfl))
    try simp only [Act.put, List.setIfInBounds_toArray, List.set_cons_zero, List.set_cons_succ]
    refine wpAnyH_done (by kernel_rfl) ?_ _
    replace PW := Aside.mk hS1_
    clear hS1_
    have s4 := PW.out.sta.cell 4 _ rfl
    have p3 := PW.out.plan.cell 3 _ rfl
    have m1 := PW.out.msg.cell 1 (.int .i64 m.at_) rfl
    have ho1 := ho.out
    go_wp2_with (first
          | (with_reducible refine load_blk (w.heap.size + 1) 42 rfl _ rfl rfl (mcs m) 42 _ PW.out.msg Try.underlying42 rfl (by kernel_rfl) ?_; simp only [Act.put, List.setIfInBounds_toArray, List.set_cons_zero, List.set_cons_succ])
          | (go_at_call 10; refine (deadline_m m _ h1 h2 h5 h6).mono ?_; rw [hby.out]; rintro e w2 ⟨rfl, hb2⟩; replace PW := Aside.mk (PW.out.next hb2); clear hb2 s4 p3 m1; have s4 := PW.out.sta.cell 4 _ rfl; have p3 := PW.out.plan.cell 3 _ rfl; have m1 := PW.out.msg.cell 1 (.int .i64 m.at_) rfl; have m5 := PW.out.msg.cell 5 (.bool m.hsz) rfl; have m6 := PW.out.msg.cell 6 (.bool m.hhf) rfl; have m7 := PW.out.msg.cell 7 (.bool m.hhu) rfl; have m8 := PW.out.msg.cell 8 (.bool m.hby) rfl; have m9 := PW.out.msg.cell 9 (.bool m.hpr) rfl; have m10 := PW.out.msg.cell 10 (.int .i64 m.siz) rfl; have m11 := PW.out.msg.cell 11 (.int .i64 m.hfo) rfl; have m12 := PW.out.msg.cell 12 (.int .i64 m.hun) rfl; have m13 := PW.out.msg.cell 13 (.int .i64 m.by_) rfl; have m14 := PW.out.msg.cell 14 (.int .i64 m.pri) rfl; have m15 := PW.out.msg.cell 15 (.string m.body) rfl; have m16 := PW.out.msg.cell 16 (.string m.ret) rfl; have m17 := PW.out.msg.cell 17 (.string m.env) rfl; have m18 := PW.out.msg.cell 18 (.string m.mode) rfl)
          | (go_at_call 18; refine (returns_any m _).mono ?_; rintro e w3 ⟨rfl, hb3⟩; rw [hr.out]; replace PW := Aside.mk (PW.out.next hb3); clear hb3 s4 p3 m1; clear m5; clear m6; clear m7; clear m8; clear m9; clear m10; clear m11; clear m12; clear m13; clear m14; clear m15; clear m16; clear m17; clear m18; have s4 := PW.out.sta.cell 4 _ rfl; have p3 := PW.out.plan.cell 3 _ rfl; have m1 := PW.out.msg.cell 1 (.int .i64 m.at_) rfl))
    go_ret
    exact ⟨by first | rfl | (simp; done) | (simp; omega), PW.out.low⟩
  exact AllReadyH.nil
end Go.Proofs.Ytojmcejkfeaccaa
