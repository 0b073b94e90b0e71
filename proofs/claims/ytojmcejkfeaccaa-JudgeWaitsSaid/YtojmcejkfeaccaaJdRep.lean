/-
  The walk of judge.report.
-/
import Derived.Test.YtojmcejkfeaccaaJdSmall
import Derived.RegionTactic
import Derived.BigRegion
import Derived.Deep.DeepCutAuto
import Derived.Deep.RegionHeld3
set_option linter.unusedVariables false
set_option linter.unusedSimpArgs false
namespace Go.Proofs.Ytojmcejkfeaccaa
open Go.RowKit
set_option maxRecDepth 100000

/-- A report was made: one kind in a new row, its bit in the status. -/
def RepYes (bb : Nat) (pl : Nat) (st : ByteArray) (tr nx td x : Int) (k : ByteArray) (w : World) (e : Ending) (w' : World) : Prop :=
  ∃ q : Nat, e = .returned (.slice (some ⟨q, 0, none⟩) 1 1) ∧ w.heap.size ≤ q ∧ Blk w' q #[.string k] 9 ∧ Blk w' bb #[.int .i64 pl, .string st, .int .i64 tr, .int .i64 nx, .int .i64 (bits .or .i64 td x)] 44 ∧ Chg (· = bb) w w'
/-- None was made. -/
def RepNo (w : World) (e : Ending) (w' : World) : Prop := e = .returned (.slice none 0 0) ∧ Below w.heap.size w w'
set_option maxHeartbeats 4000000 in
theorem report_yes (m : JdMsg.Msg) (bb : Nat) (pl : Nat) (st : ByteArray) (tr nx td : Int) (k : ByteArray) (f : Bool) (c : UInt8) (x : Int) (s : Bool) (i : Nat) (nf : ByteArray) (ab ao : Nat) (w : World)
    (hs : Blk w bb #[.int .i64 pl, .string st, .int .i64 tr, .int .i64 nx, .int .i64 td] 44)
    (hA : m.rA = some ⟨ab, ao, none⟩) (hpl : pl < m.rn) (hrn : m.rn ≤ 1000000) (hnf : w.cell? ⟨ab, ao + pl * 5 + 2, none⟩ = some (.string nf))
    (hk : Instr.findNow .string (.string k) tellEnts.toList 0 = some (some (i, .agg #[.string ⟨#[c]⟩, .int .i64 x, .bool s]))) (hnu : (m.fl.toList.isEmpty && m.fd.toList.isEmpty) = false) (hdd : (bits .and .i64 td x != 0) = false) (ask : Bool) (hask : Hid ((decide (0 ≤ Lib.indexByte nf.data.toList c) || ((nf.toList.isEmpty && s) || (f && !(nf.toList == [78])))) = ask)) (ha : ask = true) :
    Calls Try.prog 16 #[.agg #[.int .i64 m.id, .int .i64 m.at_, .int .i64 m.rel, .string m.fl, .string m.fd, .bool m.hsz, .bool m.hhf, .bool m.hhu, .bool m.hby, .bool m.hpr, .int .i64 m.siz, .int .i64 m.hfo, .int .i64 m.hun, .int .i64 m.by_, .int .i64 m.pri, .string m.body, .string m.ret, .string m.env, .string m.mode, .slice m.rA m.rn m.rc, .slice m.lA m.ln m.lc], .pointer (some ⟨bb, 0, none⟩), .string k, .bool f] w fun e w' =>  RepYes bb pl st tr nx td x k w e w' := by
  have nul : ∀ W, Calls Try.prog 21 #[.agg #[.string m.fl, .string m.fd]] W fun e w' => e = .returned (.bool false) ∧ Below W.heap.size W w' := fun W => hnu ▸ null_any m.fl m.fd W
  clear hnu
  have hl := lookup_str (P := Try.prog) Try.underlying63 Try.underlying9 (heap_alloc_new (w.alloc (.cells #[.int .i64 m.id, .int .i64 m.at_, .int .i64 m.rel, .string m.fl, .string m.fd, .bool m.hsz, .bool m.hhf, .bool m.hhu, .bool m.hby, .bool m.hpr, .int .i64 m.siz, .int .i64 m.hfo, .int .i64 m.hun, .int .i64 m.by_, .int .i64 m.pri, .string m.body, .string m.ret, .string m.env, .string m.mode, .slice m.rA m.rn m.rc, .slice m.lA m.ln m.lc] 42)) (.map tellEnts 4)) k i _ hk
  simp only [World.size_alloc, hA] at hl
  clear hk
  have z0 := hs.cell 0 _ rfl
  have z4 := hs.cell 4 _ rfl
  have hab := World.block_lt_of_cell? w _ hnf
  have hbb := hs.lt
  simp only at hab
  have hbb1 : bb < w.heap.size + 1 := by omega
  have hbb2 : bb < w.heap.size + 1 + 1 := by omega
  have hab1 : ab < w.heap.size + 1 := by omega
  have hab2 : ab < w.heap.size + 1 + 1 := by omega
  have p0 : (0 : Int) ≤ (pl : Int) := by omega
  have p1 : (pl : Int) < (m.rn : Int) := by omega
  have zf := hs.free 4
  go_enter Try.func16, Try.ntmps16
  go_wp2_with (first
    | (go_at_call 19; refine (tell_any _).mono ?_; rintro e w1 ⟨rfl, rfl⟩))
  go_quiet (fail)
  go_upto_region 3 with (fail)
  go_cut [11] (fun v11 w' => v11 = .bool ask ∧ w'.cell? ⟨w.heap.size, 3, none⟩ = some (.string m.fl) ∧ w'.cell? ⟨w.heap.size, 4, none⟩ = some (.string m.fd) ∧ w'.cell? ⟨bb, 4, none⟩ = some (.int .i64 td) ∧ w'.cell? ⟨w.heap.size + 1 + 1, 1, none⟩ = some (.int .i64 x) ∧ Below w.heap.size w w')
  case first =>
    cases f <;> cases s
    all_goals
      go_wp2_with (first
        | (go_at_call 20; refine (Try.strings_Contains_one _ _ _).mono ?_; rintro e w1 ⟨rfl, rfl⟩))
    all_goals
      go_meet
      refine ⟨?_, by go_simp, by go_simp, by go_simp, by go_simp, (pw_below_drewN ((((Below.refl _ _).alloc (Nat.le_refl _) _).alloc (by simp) _).alloc (by simp; omega) _) _)⟩
      rw [← hask.out]
      first | (simp [*]; done) | (simp_all; done) | ((have hE : nf.toList.isEmpty = false := by simp [*]); rw [hE]; simp [*]; done)
  case rest =>
    obtain ⟨rfl, y0, y1, y2, y3, hb⟩ := hcut
    subst ha
    go_wp2
    refine wp_region_held_drew (S := fun w' => w'.cell? ⟨w.heap.size, 3, none⟩ = some (.string m.fl) ∧ w'.cell? ⟨w.heap.size, 4, none⟩ = some (.string m.fd) ∧ w'.cell? ⟨bb, 4, none⟩ = some (.int .i64 td) ∧ w'.cell? ⟨w.heap.size + 1 + 1, 1, none⟩ = some (.int .i64 x) ∧ Below w.heap.size w w') (by kernel_rfl) ⟨y0, y1, y2, y3, hb.drew⟩ (fun hS0_ => ?_)
    refine wpAnyH_take (i := 0) (oi := ⟨some 44, _, _, _, _, _⟩) (v := ?_) rfl (by kernel_rfl) (by kernel_rfl) (by kernel_rfl) (fun _ _ _ h => h) (Or.inl ⟨by rfl, ?_⟩) hS0_ ?_
    rotate_left
    · (intro w_ hSw_; first | (go_simp; done) | (go_simp; with_reducible rfl))
    try simp only [Act.put, List.setIfInBounds_toArray, List.set_cons_zero, List.set_cons_succ]
    refine wpAnyH_take (i := 1) (oi := ⟨some 45, _, _, _, _, _⟩) (v := ?_) rfl (by kernel_rfl) (by kernel_rfl) (by kernel_rfl) (fun _ _ _ h => h) (Or.inl ⟨by rfl, ?_⟩) hS0_ ?_
    rotate_left
    · (intro w_ hSw_; have hc_ := hSw_.1; have hd_ := hSw_.2.1; first | (go_simp; done) | (go_simp; with_reducible rfl))
    try simp only [Act.put, List.setIfInBounds_toArray, List.set_cons_zero, List.set_cons_succ]
    refine wpAnyH_ready (rs := [2]) (by kernel_rfl) (by simp) ?_
    refine AllReadyH.cons rfl (fun K hK => ?_) ?_
    ·
      go_simp
      go_wp2_with ((go_at_call 21; refine (nul _).mono ?_; rintro e w2 ⟨rfl, hb_⟩))
      refine hK.out _ _ ?_ (fun hS1_ => ?_)
      · exact ⟨cell_next hb_ hS0_.1, cell_next hb_ hS0_.2.1, cell_next hb_ hS0_.2.2.1, cell_next hb_ hS0_.2.2.2.1, Below.next hS0_.2.2.2.2 hb_ (Nat.le_refl _)⟩
      clear hK
      as_aux_lemma =>
        refine wpAnyH_take (i := 3) (oi := ⟨some 47, _, _, _, _, _⟩) (v := ?_) rfl (by kernel_rfl) (by kernel_rfl) (by kernel_rfl) (fun _ _ _ h => h) (Or.inl ⟨by rfl, ?_⟩) hS1_ ?_
        rotate_left
        · (intro w_ hSw_; first | (go_simp; done) | (go_simp; with_reducible rfl))
        try simp only [Act.put, List.setIfInBounds_toArray, List.set_cons_zero, List.set_cons_succ]
        refine wpAnyH_take (i := 4) (oi := ⟨some 48, _, _, _, _, _⟩) (v := ?_) rfl (by kernel_rfl) (by kernel_rfl) (by kernel_rfl) (fun _ _ _ h => h) (Or.inl ⟨by rfl, ?_⟩) hS1_ ?_
        rotate_left
        · (intro w_ hSw_; first | (go_simp; done) | (go_simp; with_reducible rfl))
        try simp only [Act.put, List.setIfInBounds_toArray, List.set_cons_zero, List.set_cons_succ]
        refine wpAnyH_take (i := 5) (oi := ⟨some 49, _, _, _, _, _⟩) (v := ?_) rfl (by kernel_rfl) (by kernel_rfl) (by kernel_rfl) (fun _ _ _ h => h) (Or.inl ⟨by rfl, ?_⟩) hS1_ ?_
        rotate_left
        · (intro w_ hSw_; first | (go_simp; done) | (go_simp; with_reducible rfl))
        try simp only [Act.put, List.setIfInBounds_toArray, List.set_cons_zero, List.set_cons_succ]
        refine wpAnyH_take (i := 6) (oi := ⟨some 50, _, _, _, _, _⟩) (v := ?_) rfl (by kernel_rfl) (by kernel_rfl) (by kernel_rfl) (fun _ _ _ h => h) (Or.inl ⟨by rfl, ?_⟩) hS1_ ?_
        rotate_left
        · (intro w_ hSw_; first | (go_simp; done) | (go_simp; with_reducible rfl))
        try simp only [Act.put, List.setIfInBounds_toArray, List.set_cons_zero, List.set_cons_succ]
        refine wpAnyH_take (i := 7) (oi := ⟨some 51, _, _, _, _, _⟩) (v := ?_) rfl (by kernel_rfl) (by kernel_rfl) (by kernel_rfl) (fun _ _ _ h => h) (Or.inl ⟨by rfl, ?_⟩) hS1_ ?_
        rotate_left
        · (intro w_ hSw_; have hc_ := hSw_.2.2.1; first | (go_simp; done) | (go_simp; with_reducible rfl))
        try simp only [Act.put, List.setIfInBounds_toArray, List.set_cons_zero, List.set_cons_succ]
        refine wpAnyH_take (i := 8) (oi := ⟨some 52, _, _, _, _, _⟩) (v := ?_) rfl (by kernel_rfl) (by kernel_rfl) (by kernel_rfl) (fun _ _ _ h => h) (Or.inl ⟨by rfl, ?_⟩) hS1_ ?_
        rotate_left
        · (intro w_ hSw_; first | (go_simp; done) | (go_simp; with_reducible rfl))
        try simp only [Act.put, List.setIfInBounds_toArray, List.set_cons_zero, List.set_cons_succ]
        as_aux_lemma =>
          refine wpAnyH_take (i := 9) (oi := ⟨some 53, _, _, _, _, _⟩) (v := ?_) rfl (by kernel_rfl) (by kernel_rfl) (by kernel_rfl) (fun _ _ _ h => h) (Or.inl ⟨by rfl, ?_⟩) hS1_ ?_
          rotate_left
          · (intro w_ hSw_; have hc_ := hSw_.2.2.2.1; first | (go_simp; done) | (go_simp; with_reducible rfl))
          try simp only [Act.put, List.setIfInBounds_toArray, List.set_cons_zero, List.set_cons_succ]
          refine wpAnyH_take (i := 10) (oi := ⟨some 54, _, _, _, _, _⟩) (v := ?_) rfl (by kernel_rfl) (by kernel_rfl) (by kernel_rfl) (fun _ _ _ h => h) (Or.inl ⟨by rfl, ?_⟩) hS1_ ?_
          rotate_left
          · (intro w_ hSw_; first | (go_simp; done) | (go_simp; with_reducible rfl))
          try simp only [Act.put, List.setIfInBounds_toArray, List.set_cons_zero, List.set_cons_succ]
          refine wpAnyH_take (i := 11) (oi := ⟨some 55, _, _, _, _, _⟩) (v := ?_) rfl (by kernel_rfl) (by kernel_rfl) (by kernel_rfl) (fun _ _ _ h => h) (Or.inl ⟨by rfl, ?_⟩) hS1_ ?_
          rotate_left
          · (intro w_ hSw_; first | (go_simp; done) | (go_simp; with_reducible rfl))
          try simp only [Act.put, List.setIfInBounds_toArray, List.set_cons_zero, List.set_cons_succ]
          refine wpAnyH_take (i := 12) (oi := ⟨some 56, _, _, _, _, _⟩) (v := ?_) rfl (by kernel_rfl) (by kernel_rfl) (by kernel_rfl) (fun _ _ _ h => h) (Or.inl ⟨by rfl, ?_⟩) hS1_ ?_
          rotate_left
          · (intro w_ hSw_; first | (go_simp; done) | (go_simp; with_reducible rfl))
          try simp only [Act.put, List.setIfInBounds_toArray, List.set_cons_zero, List.set_cons_succ]
          refine wpAnyH_take (i := 13) (oi := ⟨some 57, _, _, _, _, _⟩) (v := ?_) rfl (by kernel_rfl) (by kernel_rfl) (by kernel_rfl) (fun _ _ _ h => h) (Or.inl ⟨by rfl, ?_⟩) hS1_ ?_
          rotate_left
          · (intro w_ hSw_; first | (go_simp; done) | (go_simp; with_reducible rfl))
          try simp only [Act.put, List.setIfInBounds_toArray, List.set_cons_zero, List.set_cons_succ]
          refine wpAnyH_take (i := 14) (oi := ⟨some 58, _, _, _, _, _⟩) (v := ?_) rfl (by kernel_rfl) (by kernel_rfl) (by kernel_rfl) (fun _ _ _ h => h) (Or.inl ⟨by rfl, ?_⟩) hS1_ ?_
          rotate_left
          · (intro w_ hSw_; first | (go_simp; done) | (go_simp; with_reducible rfl))
          try simp only [Act.put, List.setIfInBounds_toArray, List.set_cons_zero, List.set_cons_succ]
          refine wpAnyH_take (i := 15) (oi := ⟨some 59, _, _, _, _, _⟩) (v := ?_) rfl (by kernel_rfl) (by kernel_rfl) (by kernel_rfl) (fun _ _ _ h => h) (Or.inl ⟨by rfl, ?_⟩) hS1_ ?_
          rotate_left
          · (intro w_ hSw_; first | (go_simp; done) | (go_simp; with_reducible rfl))
          try simp only [Act.put, List.setIfInBounds_toArray, List.set_cons_zero, List.set_cons_succ]
          refine wpAnyH_take (i := 16) (oi := ⟨some 60, _, _, _, _, _⟩) (v := ?_) rfl (by kernel_rfl) (by kernel_rfl) (by kernel_rfl) (fun _ _ _ h => h) (Or.inl ⟨by rfl, ?_⟩) hS1_ ?_
          rotate_left
          · (intro w_ hSw_; first | (go_simp; done) | (go_simp; with_reducible rfl))
          try simp only [Act.put, List.setIfInBounds_toArray, List.set_cons_zero, List.set_cons_succ]
          as_aux_lemma =>
            refine wpAnyH_done (by kernel_rfl) ?_ _
            clear y0 y1 y2 y3
            obtain ⟨y0, y1, y2, y3, hb2⟩ := hS1_
            have yf : World.frozen? _ ⟨bb, 4, none⟩ = false := (hb2.frozen (p := ⟨bb, 4, none⟩) hbb).trans zf
            go_wp2
            go_region
            go_wp2
            go_ret
            have hs2 := (hb2.block bb hbb).trans hs
            refine ⟨_, rfl, hb2.size, ?_, ?_, ?_⟩
            · have := Blk.new (w := World.setCell w2 ⟨bb, 4, none⟩ (.int .i64 (bits .or .i64 td x))) #[.string k] 9
              simpa [World.setCell, World.drew] using this
            · have := Blk.old (Blk.set hs2 4 (.int .i64 (bits .or .i64 td x))) (.cells #[.string k] 9)
              simpa [World.drew] using this
            · have h1 := Chg.setCell (Chg.ofBelow hb2 (· = bb)) (p := ⟨bb, 4, none⟩) (fun _ => rfl) (.int .i64 (bits .or .i64 td x))
              exact (h1.alloc (.cells #[.string k] 9)).drew
    exact AllReadyH.nil
set_option maxHeartbeats 4000000 in
theorem report_null (m : JdMsg.Msg) (bb : Nat) (pl : Nat) (st : ByteArray) (tr nx td : Int) (k : ByteArray) (f : Bool) (c : UInt8) (x : Int) (s : Bool) (i : Nat) (nf : ByteArray) (ab ao : Nat) (w : World)
    (hs : Blk w bb #[.int .i64 pl, .string st, .int .i64 tr, .int .i64 nx, .int .i64 td] 44)
    (hA : m.rA = some ⟨ab, ao, none⟩) (hpl : pl < m.rn) (hrn : m.rn ≤ 1000000) (hnf : w.cell? ⟨ab, ao + pl * 5 + 2, none⟩ = some (.string nf))
    (hk : Instr.findNow .string (.string k) tellEnts.toList 0 = some (some (i, .agg #[.string ⟨#[c]⟩, .int .i64 x, .bool s]))) (hnu : (m.fl.toList.isEmpty && m.fd.toList.isEmpty) = true) (ask : Bool) (hask : Hid ((decide (0 ≤ Lib.indexByte nf.data.toList c) || ((nf.toList.isEmpty && s) || (f && !(nf.toList == [78])))) = ask)) :
    Calls Try.prog 16 #[.agg #[.int .i64 m.id, .int .i64 m.at_, .int .i64 m.rel, .string m.fl, .string m.fd, .bool m.hsz, .bool m.hhf, .bool m.hhu, .bool m.hby, .bool m.hpr, .int .i64 m.siz, .int .i64 m.hfo, .int .i64 m.hun, .int .i64 m.by_, .int .i64 m.pri, .string m.body, .string m.ret, .string m.env, .string m.mode, .slice m.rA m.rn m.rc, .slice m.lA m.ln m.lc], .pointer (some ⟨bb, 0, none⟩), .string k, .bool f] w fun e w' =>  RepNo w e w' := by
  have nul : ∀ W, Calls Try.prog 21 #[.agg #[.string m.fl, .string m.fd]] W fun e w' => e = .returned (.bool true) ∧ Below W.heap.size W w' := fun W => hnu ▸ null_any m.fl m.fd W
  clear hnu
  have hl := lookup_str (P := Try.prog) Try.underlying63 Try.underlying9 (heap_alloc_new (w.alloc (.cells #[.int .i64 m.id, .int .i64 m.at_, .int .i64 m.rel, .string m.fl, .string m.fd, .bool m.hsz, .bool m.hhf, .bool m.hhu, .bool m.hby, .bool m.hpr, .int .i64 m.siz, .int .i64 m.hfo, .int .i64 m.hun, .int .i64 m.by_, .int .i64 m.pri, .string m.body, .string m.ret, .string m.env, .string m.mode, .slice m.rA m.rn m.rc, .slice m.lA m.ln m.lc] 42)) (.map tellEnts 4)) k i _ hk
  simp only [World.size_alloc, hA] at hl
  clear hk
  have z0 := hs.cell 0 _ rfl
  have z4 := hs.cell 4 _ rfl
  have hab := World.block_lt_of_cell? w _ hnf
  have hbb := hs.lt
  simp only at hab
  have hbb1 : bb < w.heap.size + 1 := by omega
  have hbb2 : bb < w.heap.size + 1 + 1 := by omega
  have hab1 : ab < w.heap.size + 1 := by omega
  have hab2 : ab < w.heap.size + 1 + 1 := by omega
  have p0 : (0 : Int) ≤ (pl : Int) := by omega
  have p1 : (pl : Int) < (m.rn : Int) := by omega
  have zf := hs.free 4
  go_enter Try.func16, Try.ntmps16
  go_wp2_with (first
    | (go_at_call 19; refine (tell_any _).mono ?_; rintro e w1 ⟨rfl, rfl⟩))
  go_quiet (fail)
  go_upto_region 3 with (fail)
  go_cut [11] (fun v11 w' => v11 = .bool ask ∧ w'.cell? ⟨w.heap.size, 3, none⟩ = some (.string m.fl) ∧ w'.cell? ⟨w.heap.size, 4, none⟩ = some (.string m.fd) ∧ w'.cell? ⟨bb, 4, none⟩ = some (.int .i64 td) ∧ w'.cell? ⟨w.heap.size + 1 + 1, 1, none⟩ = some (.int .i64 x) ∧ Below w.heap.size w w')
  case first =>
    cases f <;> cases s
    all_goals
      go_wp2_with (first
        | (go_at_call 20; refine (Try.strings_Contains_one _ _ _).mono ?_; rintro e w1 ⟨rfl, rfl⟩))
    all_goals
      go_meet
      refine ⟨?_, by go_simp, by go_simp, by go_simp, by go_simp, (pw_below_drewN ((((Below.refl _ _).alloc (Nat.le_refl _) _).alloc (by simp) _).alloc (by simp; omega) _) _)⟩
      rw [← hask.out]
      first | (simp [*]; done) | (simp_all; done) | ((have hE : nf.toList.isEmpty = false := by simp [*]); rw [hE]; simp [*]; done)
  case rest =>
    obtain ⟨rfl, y0, y1, y2, y3, hb⟩ := hcut
    go_wp2
    refine wp_region_held_drew (S := fun w' => w'.cell? ⟨w.heap.size, 3, none⟩ = some (.string m.fl) ∧ w'.cell? ⟨w.heap.size, 4, none⟩ = some (.string m.fd) ∧ w'.cell? ⟨bb, 4, none⟩ = some (.int .i64 td) ∧ w'.cell? ⟨w.heap.size + 1 + 1, 1, none⟩ = some (.int .i64 x) ∧ Below w.heap.size w w') (by kernel_rfl) ⟨y0, y1, y2, y3, hb.drew⟩ (fun hS0_ => ?_)
    refine wpAnyH_take (i := 0) (oi := ⟨some 44, _, _, _, _, _⟩) (v := ?_) rfl (by kernel_rfl) (by kernel_rfl) (by kernel_rfl) (fun _ _ _ h => h) (Or.inl ⟨by rfl, ?_⟩) hS0_ ?_
    rotate_left
    · (intro w_ hSw_; first | (go_simp; done) | (go_simp; with_reducible rfl))
    try simp only [Act.put, List.setIfInBounds_toArray, List.set_cons_zero, List.set_cons_succ]
    refine wpAnyH_take (i := 1) (oi := ⟨some 45, _, _, _, _, _⟩) (v := ?_) rfl (by kernel_rfl) (by kernel_rfl) (by kernel_rfl) (fun _ _ _ h => h) (Or.inl ⟨by rfl, ?_⟩) hS0_ ?_
    rotate_left
    · (intro w_ hSw_; have hc_ := hSw_.1; have hd_ := hSw_.2.1; first | (go_simp; done) | (go_simp; with_reducible rfl))
    try simp only [Act.put, List.setIfInBounds_toArray, List.set_cons_zero, List.set_cons_succ]
    refine wpAnyH_ready (rs := [2]) (by kernel_rfl) (by simp) ?_
    refine AllReadyH.cons rfl (fun K hK => ?_) ?_
    ·
      go_simp
      go_wp2_with ((go_at_call 21; refine (nul _).mono ?_; rintro e w2 ⟨rfl, hb_⟩))
      refine hK.out _ _ ?_ (fun hS1_ => ?_)
      · exact ⟨cell_next hb_ hS0_.1, cell_next hb_ hS0_.2.1, cell_next hb_ hS0_.2.2.1, cell_next hb_ hS0_.2.2.2.1, Below.next hS0_.2.2.2.2 hb_ (Nat.le_refl _)⟩
      clear hK
      as_aux_lemma =>
        refine wpAnyH_take (i := 3) (oi := ⟨some 47, _, _, _, _, _⟩) (v := ?_) rfl (by kernel_rfl) (by kernel_rfl) (by kernel_rfl) (fun _ _ _ h => h) (Or.inl ⟨by rfl, ?_⟩) hS1_ ?_
        rotate_left
        · (intro w_ hSw_; first | (go_simp; done) | (go_simp; with_reducible rfl))
        try simp only [Act.put, List.setIfInBounds_toArray, List.set_cons_zero, List.set_cons_succ]
        refine' wpAnyH_take (i := 4) (oi := ⟨some 48, _, _, _, _, _⟩) (v := _) rfl (by kernel_rfl) (by kernel_rfl) (by kernel_rfl) (fun _ _ _ h => h) (.inr ⟨by rfl, rfl⟩) hS1_ ?_
        try simp only [Act.put, List.setIfInBounds_toArray, List.set_cons_zero, List.set_cons_succ]
        refine' wpAnyH_take (i := 5) (oi := ⟨some 49, _, _, _, _, _⟩) (v := _) rfl (by kernel_rfl) (by kernel_rfl) (by kernel_rfl) (fun _ _ _ h => h) (.inr ⟨by rfl, rfl⟩) hS1_ ?_
        try simp only [Act.put, List.setIfInBounds_toArray, List.set_cons_zero, List.set_cons_succ]
        refine' wpAnyH_take (i := 6) (oi := ⟨some 50, _, _, _, _, _⟩) (v := _) rfl (by kernel_rfl) (by kernel_rfl) (by kernel_rfl) (fun _ _ _ h => h) (.inr ⟨by rfl, rfl⟩) hS1_ ?_
        try simp only [Act.put, List.setIfInBounds_toArray, List.set_cons_zero, List.set_cons_succ]
        refine' wpAnyH_take (i := 7) (oi := ⟨some 51, _, _, _, _, _⟩) (v := _) rfl (by kernel_rfl) (by kernel_rfl) (by kernel_rfl) (fun _ _ _ h => h) (.inr ⟨by rfl, rfl⟩) hS1_ ?_
        try simp only [Act.put, List.setIfInBounds_toArray, List.set_cons_zero, List.set_cons_succ]
        refine' wpAnyH_take (i := 8) (oi := ⟨some 52, _, _, _, _, _⟩) (v := _) rfl (by kernel_rfl) (by kernel_rfl) (by kernel_rfl) (fun _ _ _ h => h) (.inr ⟨by rfl, rfl⟩) hS1_ ?_
        try simp only [Act.put, List.setIfInBounds_toArray, List.set_cons_zero, List.set_cons_succ]
        as_aux_lemma =>
          refine' wpAnyH_take (i := 9) (oi := ⟨some 53, _, _, _, _, _⟩) (v := _) rfl (by kernel_rfl) (by kernel_rfl) (by kernel_rfl) (fun _ _ _ h => h) (.inr ⟨by rfl, rfl⟩) hS1_ ?_
          try simp only [Act.put, List.setIfInBounds_toArray, List.set_cons_zero, List.set_cons_succ]
          refine' wpAnyH_take (i := 10) (oi := ⟨some 54, _, _, _, _, _⟩) (v := _) rfl (by kernel_rfl) (by kernel_rfl) (by kernel_rfl) (fun _ _ _ h => h) (.inr ⟨by rfl, rfl⟩) hS1_ ?_
          try simp only [Act.put, List.setIfInBounds_toArray, List.set_cons_zero, List.set_cons_succ]
          refine' wpAnyH_take (i := 11) (oi := ⟨some 55, _, _, _, _, _⟩) (v := _) rfl (by kernel_rfl) (by kernel_rfl) (by kernel_rfl) (fun _ _ _ h => h) (.inr ⟨by rfl, rfl⟩) hS1_ ?_
          try simp only [Act.put, List.setIfInBounds_toArray, List.set_cons_zero, List.set_cons_succ]
          refine wpAnyH_take (i := 12) (oi := ⟨some 56, _, _, _, _, _⟩) (v := ?_) rfl (by kernel_rfl) (by kernel_rfl) (by kernel_rfl) (fun _ _ _ h => h) (Or.inl ⟨by rfl, ?_⟩) hS1_ ?_
          rotate_left
          · (intro w_ hSw_; first | (go_simp; done) | (go_simp; with_reducible rfl))
          try simp only [Act.put, List.setIfInBounds_toArray, List.set_cons_zero, List.set_cons_succ]
          refine wpAnyH_take (i := 13) (oi := ⟨some 57, _, _, _, _, _⟩) (v := ?_) rfl (by kernel_rfl) (by kernel_rfl) (by kernel_rfl) (fun _ _ _ h => h) (Or.inl ⟨by rfl, ?_⟩) hS1_ ?_
          rotate_left
          · (intro w_ hSw_; first | (go_simp; done) | (go_simp; with_reducible rfl))
          try simp only [Act.put, List.setIfInBounds_toArray, List.set_cons_zero, List.set_cons_succ]
          refine' wpAnyH_take (i := 14) (oi := ⟨some 58, _, _, _, _, _⟩) (v := _) rfl (by kernel_rfl) (by kernel_rfl) (by kernel_rfl) (fun _ _ _ h => h) (.inr ⟨by rfl, rfl⟩) hS1_ ?_
          try simp only [Act.put, List.setIfInBounds_toArray, List.set_cons_zero, List.set_cons_succ]
          refine' wpAnyH_take (i := 15) (oi := ⟨some 59, _, _, _, _, _⟩) (v := _) rfl (by kernel_rfl) (by kernel_rfl) (by kernel_rfl) (fun _ _ _ h => h) (.inr ⟨by rfl, rfl⟩) hS1_ ?_
          try simp only [Act.put, List.setIfInBounds_toArray, List.set_cons_zero, List.set_cons_succ]
          refine wpAnyH_take (i := 16) (oi := ⟨some 60, _, _, _, _, _⟩) (v := ?_) rfl (by kernel_rfl) (by kernel_rfl) (by kernel_rfl) (fun _ _ _ h => h) (Or.inl ⟨by rfl, ?_⟩) hS1_ ?_
          rotate_left
          · (intro w_ hSw_; first | (go_simp; done) | (go_simp; with_reducible rfl))
          try simp only [Act.put, List.setIfInBounds_toArray, List.set_cons_zero, List.set_cons_succ]
          as_aux_lemma =>
            refine wpAnyH_done (by kernel_rfl) ?_ _
            clear y0 y1 y2 y3
            obtain ⟨y0, y1, y2, y3, hb2⟩ := hS1_
            go_wp2
            go_ret
            exact ⟨rfl, hb2⟩
    exact AllReadyH.nil
set_option maxHeartbeats 4000000 in
theorem report_told (m : JdMsg.Msg) (bb : Nat) (pl : Nat) (st : ByteArray) (tr nx td : Int) (k : ByteArray) (f : Bool) (c : UInt8) (x : Int) (s : Bool) (i : Nat) (nf : ByteArray) (ab ao : Nat) (w : World)
    (hs : Blk w bb #[.int .i64 pl, .string st, .int .i64 tr, .int .i64 nx, .int .i64 td] 44)
    (hA : m.rA = some ⟨ab, ao, none⟩) (hpl : pl < m.rn) (hrn : m.rn ≤ 1000000) (hnf : w.cell? ⟨ab, ao + pl * 5 + 2, none⟩ = some (.string nf))
    (hk : Instr.findNow .string (.string k) tellEnts.toList 0 = some (some (i, .agg #[.string ⟨#[c]⟩, .int .i64 x, .bool s]))) (hnu : (m.fl.toList.isEmpty && m.fd.toList.isEmpty) = false) (hdd : (bits .and .i64 td x != 0) = true) (ask : Bool) (hask : Hid ((decide (0 ≤ Lib.indexByte nf.data.toList c) || ((nf.toList.isEmpty && s) || (f && !(nf.toList == [78])))) = ask)) :
    Calls Try.prog 16 #[.agg #[.int .i64 m.id, .int .i64 m.at_, .int .i64 m.rel, .string m.fl, .string m.fd, .bool m.hsz, .bool m.hhf, .bool m.hhu, .bool m.hby, .bool m.hpr, .int .i64 m.siz, .int .i64 m.hfo, .int .i64 m.hun, .int .i64 m.by_, .int .i64 m.pri, .string m.body, .string m.ret, .string m.env, .string m.mode, .slice m.rA m.rn m.rc, .slice m.lA m.ln m.lc], .pointer (some ⟨bb, 0, none⟩), .string k, .bool f] w fun e w' =>  RepNo w e w' := by
  have nul : ∀ W, Calls Try.prog 21 #[.agg #[.string m.fl, .string m.fd]] W fun e w' => e = .returned (.bool false) ∧ Below W.heap.size W w' := fun W => hnu ▸ null_any m.fl m.fd W
  clear hnu
  have hl := lookup_str (P := Try.prog) Try.underlying63 Try.underlying9 (heap_alloc_new (w.alloc (.cells #[.int .i64 m.id, .int .i64 m.at_, .int .i64 m.rel, .string m.fl, .string m.fd, .bool m.hsz, .bool m.hhf, .bool m.hhu, .bool m.hby, .bool m.hpr, .int .i64 m.siz, .int .i64 m.hfo, .int .i64 m.hun, .int .i64 m.by_, .int .i64 m.pri, .string m.body, .string m.ret, .string m.env, .string m.mode, .slice m.rA m.rn m.rc, .slice m.lA m.ln m.lc] 42)) (.map tellEnts 4)) k i _ hk
  simp only [World.size_alloc, hA] at hl
  clear hk
  have z0 := hs.cell 0 _ rfl
  have z4 := hs.cell 4 _ rfl
  have hab := World.block_lt_of_cell? w _ hnf
  have hbb := hs.lt
  simp only at hab
  have hbb1 : bb < w.heap.size + 1 := by omega
  have hbb2 : bb < w.heap.size + 1 + 1 := by omega
  have hab1 : ab < w.heap.size + 1 := by omega
  have hab2 : ab < w.heap.size + 1 + 1 := by omega
  have p0 : (0 : Int) ≤ (pl : Int) := by omega
  have p1 : (pl : Int) < (m.rn : Int) := by omega
  have zf := hs.free 4
  go_enter Try.func16, Try.ntmps16
  go_wp2_with (first
    | (go_at_call 19; refine (tell_any _).mono ?_; rintro e w1 ⟨rfl, rfl⟩))
  go_quiet (fail)
  go_upto_region 3 with (fail)
  go_cut [11] (fun v11 w' => v11 = .bool ask ∧ w'.cell? ⟨w.heap.size, 3, none⟩ = some (.string m.fl) ∧ w'.cell? ⟨w.heap.size, 4, none⟩ = some (.string m.fd) ∧ w'.cell? ⟨bb, 4, none⟩ = some (.int .i64 td) ∧ w'.cell? ⟨w.heap.size + 1 + 1, 1, none⟩ = some (.int .i64 x) ∧ Below w.heap.size w w')
  case first =>
    cases f <;> cases s
    all_goals
      go_wp2_with (first
        | (go_at_call 20; refine (Try.strings_Contains_one _ _ _).mono ?_; rintro e w1 ⟨rfl, rfl⟩))
    all_goals
      go_meet
      refine ⟨?_, by go_simp, by go_simp, by go_simp, by go_simp, (pw_below_drewN ((((Below.refl _ _).alloc (Nat.le_refl _) _).alloc (by simp) _).alloc (by simp; omega) _) _)⟩
      rw [← hask.out]
      first | (simp [*]; done) | (simp_all; done) | ((have hE : nf.toList.isEmpty = false := by simp [*]); rw [hE]; simp [*]; done)
  case rest =>
    obtain ⟨rfl, y0, y1, y2, y3, hb⟩ := hcut
    go_wp2
    refine wp_region_held_drew (S := fun w' => w'.cell? ⟨w.heap.size, 3, none⟩ = some (.string m.fl) ∧ w'.cell? ⟨w.heap.size, 4, none⟩ = some (.string m.fd) ∧ w'.cell? ⟨bb, 4, none⟩ = some (.int .i64 td) ∧ w'.cell? ⟨w.heap.size + 1 + 1, 1, none⟩ = some (.int .i64 x) ∧ Below w.heap.size w w') (by kernel_rfl) ⟨y0, y1, y2, y3, hb.drew⟩ (fun hS0_ => ?_)
    refine wpAnyH_take (i := 0) (oi := ⟨some 44, _, _, _, _, _⟩) (v := ?_) rfl (by kernel_rfl) (by kernel_rfl) (by kernel_rfl) (fun _ _ _ h => h) (Or.inl ⟨by rfl, ?_⟩) hS0_ ?_
    rotate_left
    · (intro w_ hSw_; first | (go_simp; done) | (go_simp; with_reducible rfl))
    try simp only [Act.put, List.setIfInBounds_toArray, List.set_cons_zero, List.set_cons_succ]
    refine wpAnyH_take (i := 1) (oi := ⟨some 45, _, _, _, _, _⟩) (v := ?_) rfl (by kernel_rfl) (by kernel_rfl) (by kernel_rfl) (fun _ _ _ h => h) (Or.inl ⟨by rfl, ?_⟩) hS0_ ?_
    rotate_left
    · (intro w_ hSw_; have hc_ := hSw_.1; have hd_ := hSw_.2.1; first | (go_simp; done) | (go_simp; with_reducible rfl))
    try simp only [Act.put, List.setIfInBounds_toArray, List.set_cons_zero, List.set_cons_succ]
    refine wpAnyH_ready (rs := [2]) (by kernel_rfl) (by simp) ?_
    refine AllReadyH.cons rfl (fun K hK => ?_) ?_
    ·
      go_simp
      go_wp2_with ((go_at_call 21; refine (nul _).mono ?_; rintro e w2 ⟨rfl, hb_⟩))
      refine hK.out _ _ ?_ (fun hS1_ => ?_)
      · exact ⟨cell_next hb_ hS0_.1, cell_next hb_ hS0_.2.1, cell_next hb_ hS0_.2.2.1, cell_next hb_ hS0_.2.2.2.1, Below.next hS0_.2.2.2.2 hb_ (Nat.le_refl _)⟩
      clear hK
      as_aux_lemma =>
        refine wpAnyH_take (i := 3) (oi := ⟨some 47, _, _, _, _, _⟩) (v := ?_) rfl (by kernel_rfl) (by kernel_rfl) (by kernel_rfl) (fun _ _ _ h => h) (Or.inl ⟨by rfl, ?_⟩) hS1_ ?_
        rotate_left
        · (intro w_ hSw_; first | (go_simp; done) | (go_simp; with_reducible rfl))
        try simp only [Act.put, List.setIfInBounds_toArray, List.set_cons_zero, List.set_cons_succ]
        refine wpAnyH_take (i := 4) (oi := ⟨some 48, _, _, _, _, _⟩) (v := ?_) rfl (by kernel_rfl) (by kernel_rfl) (by kernel_rfl) (fun _ _ _ h => h) (Or.inl ⟨by rfl, ?_⟩) hS1_ ?_
        rotate_left
        · (intro w_ hSw_; first | (go_simp; done) | (go_simp; with_reducible rfl))
        try simp only [Act.put, List.setIfInBounds_toArray, List.set_cons_zero, List.set_cons_succ]
        refine wpAnyH_take (i := 5) (oi := ⟨some 49, _, _, _, _, _⟩) (v := ?_) rfl (by kernel_rfl) (by kernel_rfl) (by kernel_rfl) (fun _ _ _ h => h) (Or.inl ⟨by rfl, ?_⟩) hS1_ ?_
        rotate_left
        · (intro w_ hSw_; first | (go_simp; done) | (go_simp; with_reducible rfl))
        try simp only [Act.put, List.setIfInBounds_toArray, List.set_cons_zero, List.set_cons_succ]
        refine wpAnyH_take (i := 6) (oi := ⟨some 50, _, _, _, _, _⟩) (v := ?_) rfl (by kernel_rfl) (by kernel_rfl) (by kernel_rfl) (fun _ _ _ h => h) (Or.inl ⟨by rfl, ?_⟩) hS1_ ?_
        rotate_left
        · (intro w_ hSw_; first | (go_simp; done) | (go_simp; with_reducible rfl))
        try simp only [Act.put, List.setIfInBounds_toArray, List.set_cons_zero, List.set_cons_succ]
        refine wpAnyH_take (i := 7) (oi := ⟨some 51, _, _, _, _, _⟩) (v := ?_) rfl (by kernel_rfl) (by kernel_rfl) (by kernel_rfl) (fun _ _ _ h => h) (Or.inl ⟨by rfl, ?_⟩) hS1_ ?_
        rotate_left
        · (intro w_ hSw_; have hc_ := hSw_.2.2.1; first | (go_simp; done) | (go_simp; with_reducible rfl))
        try simp only [Act.put, List.setIfInBounds_toArray, List.set_cons_zero, List.set_cons_succ]
        refine wpAnyH_take (i := 8) (oi := ⟨some 52, _, _, _, _, _⟩) (v := ?_) rfl (by kernel_rfl) (by kernel_rfl) (by kernel_rfl) (fun _ _ _ h => h) (Or.inl ⟨by rfl, ?_⟩) hS1_ ?_
        rotate_left
        · (intro w_ hSw_; first | (go_simp; done) | (go_simp; with_reducible rfl))
        try simp only [Act.put, List.setIfInBounds_toArray, List.set_cons_zero, List.set_cons_succ]
        as_aux_lemma =>
          refine wpAnyH_take (i := 9) (oi := ⟨some 53, _, _, _, _, _⟩) (v := ?_) rfl (by kernel_rfl) (by kernel_rfl) (by kernel_rfl) (fun _ _ _ h => h) (Or.inl ⟨by rfl, ?_⟩) hS1_ ?_
          rotate_left
          · (intro w_ hSw_; have hc_ := hSw_.2.2.2.1; first | (go_simp; done) | (go_simp; with_reducible rfl))
          try simp only [Act.put, List.setIfInBounds_toArray, List.set_cons_zero, List.set_cons_succ]
          refine wpAnyH_take (i := 10) (oi := ⟨some 54, _, _, _, _, _⟩) (v := ?_) rfl (by kernel_rfl) (by kernel_rfl) (by kernel_rfl) (fun _ _ _ h => h) (Or.inl ⟨by rfl, ?_⟩) hS1_ ?_
          rotate_left
          · (intro w_ hSw_; first | (go_simp; done) | (go_simp; with_reducible rfl))
          try simp only [Act.put, List.setIfInBounds_toArray, List.set_cons_zero, List.set_cons_succ]
          refine wpAnyH_take (i := 11) (oi := ⟨some 55, _, _, _, _, _⟩) (v := ?_) rfl (by kernel_rfl) (by kernel_rfl) (by kernel_rfl) (fun _ _ _ h => h) (Or.inl ⟨by rfl, ?_⟩) hS1_ ?_
          rotate_left
          · (intro w_ hSw_; first | (go_simp; done) | (go_simp; with_reducible rfl))
          try simp only [Act.put, List.setIfInBounds_toArray, List.set_cons_zero, List.set_cons_succ]
          refine wpAnyH_take (i := 12) (oi := ⟨some 56, _, _, _, _, _⟩) (v := ?_) rfl (by kernel_rfl) (by kernel_rfl) (by kernel_rfl) (fun _ _ _ h => h) (Or.inl ⟨by rfl, ?_⟩) hS1_ ?_
          rotate_left
          · (intro w_ hSw_; first | (go_simp; done) | (go_simp; with_reducible rfl))
          try simp only [Act.put, List.setIfInBounds_toArray, List.set_cons_zero, List.set_cons_succ]
          refine wpAnyH_take (i := 13) (oi := ⟨some 57, _, _, _, _, _⟩) (v := ?_) rfl (by kernel_rfl) (by kernel_rfl) (by kernel_rfl) (fun _ _ _ h => h) (Or.inl ⟨by rfl, ?_⟩) hS1_ ?_
          rotate_left
          · (intro w_ hSw_; first | (go_simp; done) | (go_simp; with_reducible rfl))
          try simp only [Act.put, List.setIfInBounds_toArray, List.set_cons_zero, List.set_cons_succ]
          refine' wpAnyH_take (i := 14) (oi := ⟨some 58, _, _, _, _, _⟩) (v := _) rfl (by kernel_rfl) (by kernel_rfl) (by kernel_rfl) (fun _ _ _ h => h) (.inr ⟨by rfl, rfl⟩) hS1_ ?_
          try simp only [Act.put, List.setIfInBounds_toArray, List.set_cons_zero, List.set_cons_succ]
          refine' wpAnyH_take (i := 15) (oi := ⟨some 59, _, _, _, _, _⟩) (v := _) rfl (by kernel_rfl) (by kernel_rfl) (by kernel_rfl) (fun _ _ _ h => h) (.inr ⟨by rfl, rfl⟩) hS1_ ?_
          try simp only [Act.put, List.setIfInBounds_toArray, List.set_cons_zero, List.set_cons_succ]
          refine wpAnyH_take (i := 16) (oi := ⟨some 60, _, _, _, _, _⟩) (v := ?_) rfl (by kernel_rfl) (by kernel_rfl) (by kernel_rfl) (fun _ _ _ h => h) (Or.inl ⟨by rfl, ?_⟩) hS1_ ?_
          rotate_left
          · (intro w_ hSw_; first | (go_simp; done) | (go_simp; with_reducible rfl))
          try simp only [Act.put, List.setIfInBounds_toArray, List.set_cons_zero, List.set_cons_succ]
          as_aux_lemma =>
            refine wpAnyH_done (by kernel_rfl) ?_ _
            clear y0 y1 y2 y3
            obtain ⟨y0, y1, y2, y3, hb2⟩ := hS1_
            go_wp2
            go_ret
            exact ⟨rfl, hb2⟩
    exact AllReadyH.nil
set_option maxHeartbeats 4000000 in
theorem report_unasked (m : JdMsg.Msg) (bb : Nat) (pl : Nat) (st : ByteArray) (tr nx td : Int) (k : ByteArray) (f : Bool) (c : UInt8) (x : Int) (s : Bool) (i : Nat) (nf : ByteArray) (ab ao : Nat) (w : World)
    (hs : Blk w bb #[.int .i64 pl, .string st, .int .i64 tr, .int .i64 nx, .int .i64 td] 44)
    (hA : m.rA = some ⟨ab, ao, none⟩) (hpl : pl < m.rn) (hrn : m.rn ≤ 1000000) (hnf : w.cell? ⟨ab, ao + pl * 5 + 2, none⟩ = some (.string nf))
    (hk : Instr.findNow .string (.string k) tellEnts.toList 0 = some (some (i, .agg #[.string ⟨#[c]⟩, .int .i64 x, .bool s]))) (hnu : (m.fl.toList.isEmpty && m.fd.toList.isEmpty) = false) (hdd : (bits .and .i64 td x != 0) = false) (ask : Bool) (hask : Hid ((decide (0 ≤ Lib.indexByte nf.data.toList c) || ((nf.toList.isEmpty && s) || (f && !(nf.toList == [78])))) = ask)) (ha : ask = false) :
    Calls Try.prog 16 #[.agg #[.int .i64 m.id, .int .i64 m.at_, .int .i64 m.rel, .string m.fl, .string m.fd, .bool m.hsz, .bool m.hhf, .bool m.hhu, .bool m.hby, .bool m.hpr, .int .i64 m.siz, .int .i64 m.hfo, .int .i64 m.hun, .int .i64 m.by_, .int .i64 m.pri, .string m.body, .string m.ret, .string m.env, .string m.mode, .slice m.rA m.rn m.rc, .slice m.lA m.ln m.lc], .pointer (some ⟨bb, 0, none⟩), .string k, .bool f] w fun e w' =>  RepNo w e w' := by
  have nul : ∀ W, Calls Try.prog 21 #[.agg #[.string m.fl, .string m.fd]] W fun e w' => e = .returned (.bool false) ∧ Below W.heap.size W w' := fun W => hnu ▸ null_any m.fl m.fd W
  clear hnu
  have hl := lookup_str (P := Try.prog) Try.underlying63 Try.underlying9 (heap_alloc_new (w.alloc (.cells #[.int .i64 m.id, .int .i64 m.at_, .int .i64 m.rel, .string m.fl, .string m.fd, .bool m.hsz, .bool m.hhf, .bool m.hhu, .bool m.hby, .bool m.hpr, .int .i64 m.siz, .int .i64 m.hfo, .int .i64 m.hun, .int .i64 m.by_, .int .i64 m.pri, .string m.body, .string m.ret, .string m.env, .string m.mode, .slice m.rA m.rn m.rc, .slice m.lA m.ln m.lc] 42)) (.map tellEnts 4)) k i _ hk
  simp only [World.size_alloc, hA] at hl
  clear hk
  have z0 := hs.cell 0 _ rfl
  have z4 := hs.cell 4 _ rfl
  have hab := World.block_lt_of_cell? w _ hnf
  have hbb := hs.lt
  simp only at hab
  have hbb1 : bb < w.heap.size + 1 := by omega
  have hbb2 : bb < w.heap.size + 1 + 1 := by omega
  have hab1 : ab < w.heap.size + 1 := by omega
  have hab2 : ab < w.heap.size + 1 + 1 := by omega
  have p0 : (0 : Int) ≤ (pl : Int) := by omega
  have p1 : (pl : Int) < (m.rn : Int) := by omega
  have zf := hs.free 4
  go_enter Try.func16, Try.ntmps16
  go_wp2_with (first
    | (go_at_call 19; refine (tell_any _).mono ?_; rintro e w1 ⟨rfl, rfl⟩))
  go_quiet (fail)
  go_upto_region 3 with (fail)
  go_cut [11] (fun v11 w' => v11 = .bool ask ∧ w'.cell? ⟨w.heap.size, 3, none⟩ = some (.string m.fl) ∧ w'.cell? ⟨w.heap.size, 4, none⟩ = some (.string m.fd) ∧ w'.cell? ⟨bb, 4, none⟩ = some (.int .i64 td) ∧ w'.cell? ⟨w.heap.size + 1 + 1, 1, none⟩ = some (.int .i64 x) ∧ Below w.heap.size w w')
  case first =>
    cases f <;> cases s
    all_goals
      go_wp2_with (first
        | (go_at_call 20; refine (Try.strings_Contains_one _ _ _).mono ?_; rintro e w1 ⟨rfl, rfl⟩))
    all_goals
      go_meet
      refine ⟨?_, by go_simp, by go_simp, by go_simp, by go_simp, (pw_below_drewN ((((Below.refl _ _).alloc (Nat.le_refl _) _).alloc (by simp) _).alloc (by simp; omega) _) _)⟩
      rw [← hask.out]
      first | (simp [*]; done) | (simp_all; done) | ((have hE : nf.toList.isEmpty = false := by simp [*]); rw [hE]; simp [*]; done)
  case rest =>
    obtain ⟨rfl, y0, y1, y2, y3, hb⟩ := hcut
    subst ha
    go_wp2
    refine wp_region_held_drew (S := fun w' => w'.cell? ⟨w.heap.size, 3, none⟩ = some (.string m.fl) ∧ w'.cell? ⟨w.heap.size, 4, none⟩ = some (.string m.fd) ∧ w'.cell? ⟨bb, 4, none⟩ = some (.int .i64 td) ∧ w'.cell? ⟨w.heap.size + 1 + 1, 1, none⟩ = some (.int .i64 x) ∧ Below w.heap.size w w') (by kernel_rfl) ⟨y0, y1, y2, y3, hb.drew⟩ (fun hS0_ => ?_)
    refine wpAnyH_take (i := 0) (oi := ⟨some 44, _, _, _, _, _⟩) (v := ?_) rfl (by kernel_rfl) (by kernel_rfl) (by kernel_rfl) (fun _ _ _ h => h) (Or.inl ⟨by rfl, ?_⟩) hS0_ ?_
    rotate_left
    · (intro w_ hSw_; first | (go_simp; done) | (go_simp; with_reducible rfl))
    try simp only [Act.put, List.setIfInBounds_toArray, List.set_cons_zero, List.set_cons_succ]
    refine wpAnyH_take (i := 1) (oi := ⟨some 45, _, _, _, _, _⟩) (v := ?_) rfl (by kernel_rfl) (by kernel_rfl) (by kernel_rfl) (fun _ _ _ h => h) (Or.inl ⟨by rfl, ?_⟩) hS0_ ?_
    rotate_left
    · (intro w_ hSw_; have hc_ := hSw_.1; have hd_ := hSw_.2.1; first | (go_simp; done) | (go_simp; with_reducible rfl))
    try simp only [Act.put, List.setIfInBounds_toArray, List.set_cons_zero, List.set_cons_succ]
    refine wpAnyH_ready (rs := [2]) (by kernel_rfl) (by simp) ?_
    refine AllReadyH.cons rfl (fun K hK => ?_) ?_
    ·
      go_simp
      go_wp2_with ((go_at_call 21; refine (nul _).mono ?_; rintro e w2 ⟨rfl, hb_⟩))
      refine hK.out _ _ ?_ (fun hS1_ => ?_)
      · exact ⟨cell_next hb_ hS0_.1, cell_next hb_ hS0_.2.1, cell_next hb_ hS0_.2.2.1, cell_next hb_ hS0_.2.2.2.1, Below.next hS0_.2.2.2.2 hb_ (Nat.le_refl _)⟩
      clear hK
      as_aux_lemma =>
        refine wpAnyH_take (i := 3) (oi := ⟨some 47, _, _, _, _, _⟩) (v := ?_) rfl (by kernel_rfl) (by kernel_rfl) (by kernel_rfl) (fun _ _ _ h => h) (Or.inl ⟨by rfl, ?_⟩) hS1_ ?_
        rotate_left
        · (intro w_ hSw_; first | (go_simp; done) | (go_simp; with_reducible rfl))
        try simp only [Act.put, List.setIfInBounds_toArray, List.set_cons_zero, List.set_cons_succ]
        refine wpAnyH_take (i := 4) (oi := ⟨some 48, _, _, _, _, _⟩) (v := ?_) rfl (by kernel_rfl) (by kernel_rfl) (by kernel_rfl) (fun _ _ _ h => h) (Or.inl ⟨by rfl, ?_⟩) hS1_ ?_
        rotate_left
        · (intro w_ hSw_; first | (go_simp; done) | (go_simp; with_reducible rfl))
        try simp only [Act.put, List.setIfInBounds_toArray, List.set_cons_zero, List.set_cons_succ]
        refine wpAnyH_take (i := 5) (oi := ⟨some 49, _, _, _, _, _⟩) (v := ?_) rfl (by kernel_rfl) (by kernel_rfl) (by kernel_rfl) (fun _ _ _ h => h) (Or.inl ⟨by rfl, ?_⟩) hS1_ ?_
        rotate_left
        · (intro w_ hSw_; first | (go_simp; done) | (go_simp; with_reducible rfl))
        try simp only [Act.put, List.setIfInBounds_toArray, List.set_cons_zero, List.set_cons_succ]
        refine wpAnyH_take (i := 6) (oi := ⟨some 50, _, _, _, _, _⟩) (v := ?_) rfl (by kernel_rfl) (by kernel_rfl) (by kernel_rfl) (fun _ _ _ h => h) (Or.inl ⟨by rfl, ?_⟩) hS1_ ?_
        rotate_left
        · (intro w_ hSw_; first | (go_simp; done) | (go_simp; with_reducible rfl))
        try simp only [Act.put, List.setIfInBounds_toArray, List.set_cons_zero, List.set_cons_succ]
        refine wpAnyH_take (i := 7) (oi := ⟨some 51, _, _, _, _, _⟩) (v := ?_) rfl (by kernel_rfl) (by kernel_rfl) (by kernel_rfl) (fun _ _ _ h => h) (Or.inl ⟨by rfl, ?_⟩) hS1_ ?_
        rotate_left
        · (intro w_ hSw_; have hc_ := hSw_.2.2.1; first | (go_simp; done) | (go_simp; with_reducible rfl))
        try simp only [Act.put, List.setIfInBounds_toArray, List.set_cons_zero, List.set_cons_succ]
        refine wpAnyH_take (i := 8) (oi := ⟨some 52, _, _, _, _, _⟩) (v := ?_) rfl (by kernel_rfl) (by kernel_rfl) (by kernel_rfl) (fun _ _ _ h => h) (Or.inl ⟨by rfl, ?_⟩) hS1_ ?_
        rotate_left
        · (intro w_ hSw_; first | (go_simp; done) | (go_simp; with_reducible rfl))
        try simp only [Act.put, List.setIfInBounds_toArray, List.set_cons_zero, List.set_cons_succ]
        as_aux_lemma =>
          refine wpAnyH_take (i := 9) (oi := ⟨some 53, _, _, _, _, _⟩) (v := ?_) rfl (by kernel_rfl) (by kernel_rfl) (by kernel_rfl) (fun _ _ _ h => h) (Or.inl ⟨by rfl, ?_⟩) hS1_ ?_
          rotate_left
          · (intro w_ hSw_; have hc_ := hSw_.2.2.2.1; first | (go_simp; done) | (go_simp; with_reducible rfl))
          try simp only [Act.put, List.setIfInBounds_toArray, List.set_cons_zero, List.set_cons_succ]
          refine wpAnyH_take (i := 10) (oi := ⟨some 54, _, _, _, _, _⟩) (v := ?_) rfl (by kernel_rfl) (by kernel_rfl) (by kernel_rfl) (fun _ _ _ h => h) (Or.inl ⟨by rfl, ?_⟩) hS1_ ?_
          rotate_left
          · (intro w_ hSw_; first | (go_simp; done) | (go_simp; with_reducible rfl))
          try simp only [Act.put, List.setIfInBounds_toArray, List.set_cons_zero, List.set_cons_succ]
          refine wpAnyH_take (i := 11) (oi := ⟨some 55, _, _, _, _, _⟩) (v := ?_) rfl (by kernel_rfl) (by kernel_rfl) (by kernel_rfl) (fun _ _ _ h => h) (Or.inl ⟨by rfl, ?_⟩) hS1_ ?_
          rotate_left
          · (intro w_ hSw_; first | (go_simp; done) | (go_simp; with_reducible rfl))
          try simp only [Act.put, List.setIfInBounds_toArray, List.set_cons_zero, List.set_cons_succ]
          refine wpAnyH_take (i := 12) (oi := ⟨some 56, _, _, _, _, _⟩) (v := ?_) rfl (by kernel_rfl) (by kernel_rfl) (by kernel_rfl) (fun _ _ _ h => h) (Or.inl ⟨by rfl, ?_⟩) hS1_ ?_
          rotate_left
          · (intro w_ hSw_; first | (go_simp; done) | (go_simp; with_reducible rfl))
          try simp only [Act.put, List.setIfInBounds_toArray, List.set_cons_zero, List.set_cons_succ]
          refine wpAnyH_take (i := 13) (oi := ⟨some 57, _, _, _, _, _⟩) (v := ?_) rfl (by kernel_rfl) (by kernel_rfl) (by kernel_rfl) (fun _ _ _ h => h) (Or.inl ⟨by rfl, ?_⟩) hS1_ ?_
          rotate_left
          · (intro w_ hSw_; first | (go_simp; done) | (go_simp; with_reducible rfl))
          try simp only [Act.put, List.setIfInBounds_toArray, List.set_cons_zero, List.set_cons_succ]
          refine wpAnyH_take (i := 14) (oi := ⟨some 58, _, _, _, _, _⟩) (v := ?_) rfl (by kernel_rfl) (by kernel_rfl) (by kernel_rfl) (fun _ _ _ h => h) (Or.inl ⟨by rfl, ?_⟩) hS1_ ?_
          rotate_left
          · (intro w_ hSw_; first | (go_simp; done) | (go_simp; with_reducible rfl))
          try simp only [Act.put, List.setIfInBounds_toArray, List.set_cons_zero, List.set_cons_succ]
          refine wpAnyH_take (i := 15) (oi := ⟨some 59, _, _, _, _, _⟩) (v := ?_) rfl (by kernel_rfl) (by kernel_rfl) (by kernel_rfl) (fun _ _ _ h => h) (Or.inl ⟨by rfl, ?_⟩) hS1_ ?_
          rotate_left
          · (intro w_ hSw_; first | (go_simp; done) | (go_simp; with_reducible rfl))
          try simp only [Act.put, List.setIfInBounds_toArray, List.set_cons_zero, List.set_cons_succ]
          refine wpAnyH_take (i := 16) (oi := ⟨some 60, _, _, _, _, _⟩) (v := ?_) rfl (by kernel_rfl) (by kernel_rfl) (by kernel_rfl) (fun _ _ _ h => h) (Or.inl ⟨by rfl, ?_⟩) hS1_ ?_
          rotate_left
          · (intro w_ hSw_; first | (go_simp; done) | (go_simp; with_reducible rfl))
          try simp only [Act.put, List.setIfInBounds_toArray, List.set_cons_zero, List.set_cons_succ]
          as_aux_lemma =>
            refine wpAnyH_done (by kernel_rfl) ?_ _
            clear y0 y1 y2 y3
            obtain ⟨y0, y1, y2, y3, hb2⟩ := hS1_
            go_wp2
            go_ret
            exact ⟨rfl, hb2⟩
    exact AllReadyH.nil
end Go.Proofs.Ytojmcejkfeaccaa
