/-
  Walks of the package param: ParseMail.
-/
import Derived.Test.YtllhbcpbihhdnaaGreatDoorQ1
import Derived.Test.YtllhbcpbihhdnaaGreatDoorQ4
import Derived.Test.YtllhbcpbihhdnaaGreatDoorQ3
set_option linter.unusedVariables false
set_option linter.unusedSimpArgs false
namespace Go.Proofs.YtllhbcpbihhdnaaGreatDoor
open Go.RowKit Go.Shelf Pm
set_option maxRecDepth 100000
namespace Pm
def mailKeys (H : Nat) : List (Key Ml) := [
  ⟨⟨#[83, 73, 90, 69]⟩, 43, #[.pointer (some ⟨H + 1, 0, none⟩)], stSize⟩,
  ⟨⟨#[66, 79, 68, 89]⟩, 40, #[.pointer (some ⟨H + 5, 0, none⟩), .pointer (some ⟨H + 4, 0, none⟩)], stBody⟩,
  ⟨⟨#[82, 69, 84]⟩, 40, #[.pointer (some ⟨H + 8, 0, none⟩), .pointer (some ⟨H + 7, 0, none⟩)], stRet⟩,
  ⟨⟨#[69, 78, 86, 73, 68]⟩, 45, #[.pointer (some ⟨H + 1, 0, none⟩)], stEnvid⟩,
  ⟨⟨#[72, 79, 76, 68, 70, 79, 82]⟩, 47, #[.pointer (some ⟨H + 1, 0, none⟩)], stFor⟩,
  ⟨⟨#[72, 79, 76, 68, 85, 78, 84, 73, 76]⟩, 49, #[.pointer (some ⟨H + 1, 0, none⟩)], stUntil⟩,
  ⟨⟨#[66, 89]⟩, 52, #[.pointer (some ⟨H + 1, 0, none⟩)], stBy⟩,
  ⟨⟨#[77, 84, 45, 80, 82, 73, 79, 82, 73, 84, 89]⟩, 54, #[.pointer (some ⟨H + 1, 0, none⟩)], stPri⟩]
def mailPlain : List (Key Ml) := [⟨⟨#[83, 73, 90, 69]⟩, 0, #[], stSize⟩, ⟨⟨#[66, 79, 68, 89]⟩, 0, #[], stBody⟩, ⟨⟨#[82, 69, 84]⟩, 0, #[], stRet⟩, ⟨⟨#[69, 78, 86, 73, 68]⟩, 0, #[], stEnvid⟩, ⟨⟨#[72, 79, 76, 68, 70, 79, 82]⟩, 0, #[], stFor⟩, ⟨⟨#[72, 79, 76, 68, 85, 78, 84, 73, 76]⟩, 0, #[], stUntil⟩, ⟨⟨#[66, 89]⟩, 0, #[], stBy⟩, ⟨⟨#[77, 84, 45, 80, 82, 73, 79, 82, 73, 84, 89]⟩, 0, #[], stPri⟩]
def Key.plain {σ : Type} (k : Key σ) : Key σ := ⟨k.key, 0, #[], k.step⟩
theorem mail_plain (H : Nat) : (mailKeys H).map Key.plain = mailPlain := rfl
theorem find_plain {σ : Type} (ks : List (Key σ)) (k : ByteArray) : findK (ks.map Key.plain) k = (findK ks k).map Key.plain := by
  unfold findK
  rw [List.find?_map]
  rfl
theorem step_plain {σ : Type} (ks : List (Key σ)) (x : ByteArray) (seen : List ByteArray) (s : σ) : wordStep (ks.map Key.plain) x seen s = wordStep ks x seen s := by
  unfold wordStep
  rw [find_plain]
  cases findK ks (upB (cutL x 61)) <;> rfl
theorem run_plain {σ : Type} (ks : List (Key σ)) : ∀ (xs seen : List ByteArray) (s : σ), wordsRun (ks.map Key.plain) xs seen s = wordsRun ks xs seen s
  | [], _, _ => rfl
  | x :: xs, seen, s => by
    unfold wordsRun
    rw [step_plain]
    split
    · exact run_plain ks xs _ _
    · rfl
theorem all_plain {σ : Type} (ks : List (Key σ)) (t : ByteArray) (s : σ) : wordsAll (ks.map Key.plain) t s = wordsAll ks t s := by
  unfold wordsAll
  rw [run_plain]
/-- What is parsed of a text. -/
def parseMail (t : ByteArray) : Ml × Int :=
  if (wordsAll mailPlain t Ml.zero).2 ≠ 0 then (Ml.zero, (wordsAll mailPlain t Ml.zero).2)
  else if (wordsAll mailPlain t Ml.zero).1.hF = true ∧ (wordsAll mailPlain t Ml.zero).1.hU = true then (Ml.zero, 9)
  else ((wordsAll mailPlain t Ml.zero).1, 0)
end Pm
theorem text_any (p : Option Addr) (q : Option Addr) (n c : Nat) (W : World) : Calls Tryz.prog 39 #[.pointer p, .slice q n c] W fun e w' => e = .returned (.func (.func 40) #[] #[.pointer (some ⟨W.heap.size + 1, 0, none⟩), .pointer (some ⟨W.heap.size, 0, none⟩)]) ∧ w' = (W.alloc (.cells #[.pointer p] 72)).alloc (.cells #[.slice q n c] 50) := by
  go_enter Tryz.func39, Tryz.ntmps39
  go_wp2
  go_ret
  exact ⟨rfl, rfl⟩
theorem words_at {σ : Type} (B : Nat) (s : ByteArray) (hm : s.size ≤ 100000000) (r c : Nat) (ks : List (Key σ)) (C : σ → World → Prop) (st : σ) (w : World) (hB : w.heap.size = B) (hr : r < B) (hd : w.heap[r]? = some (.map (keyEnts 0 ks).toArray c)) (hC : WClass B r ks C) (h0 : C st w) :
    Calls Tryz.prog 42 #[.string s, .map (some r)] w fun e W' => e = .returned (.int .i64 (wordsAll ks s st).2) ∧ C (wordsAll ks s st).1 W' := by
  subst hB
  exact words_any s hm r c ks C st w hr hd hC h0
theorem mold {w : World} {r : Nat} {o : Obj} (h : w.heap[r]? = some o) (x : Obj) : (w.alloc x).heap[r]? = some o := (Below.heap_alloc w x r (Array.getElem?_eq_some_iff.1 h).1).trans h
/-- Blocks of the call's own, from H on; the map of its keys is at H + 2. -/
structure MB (w : World) (H : Nat) (L : List (Nat × Array Value × TypeId)) (W : World) : Prop where
  low : Below H w W
  hH : H ≤ W.heap.size
  own : ∀ x ∈ L, x.1 ≠ H + 2 ∧ Blk W x.1 x.2.1 x.2.2
theorem MB.chg {w : World} {H : Nat} {L : List (Nat × Array Value × TypeId)} {W W' : World} (h : MB w H L W) (k : Chg (fun i => i = H + 2) W W') : MB w H L W' :=
  ⟨k.below h.low (fun i q => by omega) h.hH, Nat.le_trans h.hH k.size, fun x hx => ⟨(h.own x hx).1, (h.own x hx).2.chg k (h.own x hx).1⟩⟩
theorem MB.alloc {w : World} {H : Nat} {L : List (Nat × Array Value × TypeId)} {W : World} (h : MB w H L W) (b : Nat) (hb : W.heap.size = b) (hne : b ≠ H + 2) (cs : Array Value) (t : TypeId) : MB w H ((b, cs, t) :: L) (W.alloc (.cells cs t)) := by
  subst hb
  refine ⟨h.low.alloc h.hH _, by simp; have := h.hH; omega, fun x hx => ?_⟩
  rcases List.mem_cons.1 hx with rfl | hx
  · exact ⟨hne, Blk.new _ _⟩
  · exact ⟨(h.own x hx).1, (h.own x hx).2.old _⟩
theorem MB.mapped {w : World} {H : Nat} {L : List (Nat × Array Value × TypeId)} {W : World} (h : MB w H L W) (o : Obj) : MB w H L (W.alloc o) :=
  ⟨h.low.alloc h.hH _, by simp; have := h.hH; omega, fun x hx => ⟨(h.own x hx).1, (h.own x hx).2.old _⟩⟩
theorem MB.at {w : World} {H : Nat} {L : List (Nat × Array Value × TypeId)} {W : World} (h : MB w H L W) {b : Nat} {cs : Array Value} {t : TypeId} (hm : (b, cs, t) ∈ L) : Blk W b cs t := (h.own _ hm).2
/-- In ParseMail: the blocks that its closures keep. -/
structure MlS (w : World) (H : Nat) (m : Ml) (W : World) : Prop where
  low : Below H w W
  res : Blk W H Ml.zero.cells 27
  box : Blk W (H + 1) m.cells 27
  s1 : Blk W (H + 3) #[.string n7, .string n8] 9
  a1 : Blk W (H + 4) #[.pointer (some ⟨H + 1, 10, none⟩)] 72
  l1 : Blk W (H + 5) #[.slice (some ⟨H + 3, 0, none⟩) 2 2] 50
  s2 : Blk W (H + 6) #[.string nFull, .string nHdrs] 9
  a2 : Blk W (H + 7) #[.pointer (some ⟨H + 1, 11, none⟩)] 72
  l2 : Blk W (H + 8) #[.slice (some ⟨H + 6, 0, none⟩) 2 2] 50
theorem MlS.chg {w : World} {H : Nat} {m : Ml} {W W' : World} {K : Nat → Prop} (h : MlS w H m W) (hH : H ≤ W.heap.size) (k : Chg K W W') (hk : ∀ i, K i → H + 9 ≤ i) : MlS w H m W' :=
  ⟨k.below h.low (fun i q => by have := hk i q; omega) hH, h.res.chg k (fun q => by have := hk _ q; omega), h.box.chg k (fun q => by have := hk _ q; omega), h.s1.chg k (fun q => by have := hk _ q; omega), h.a1.chg k (fun q => by have := hk _ q; omega), h.l1.chg k (fun q => by have := hk _ q; omega), h.s2.chg k (fun q => by have := hk _ q; omega), h.a2.chg k (fun q => by have := hk _ q; omega), h.l2.chg k (fun q => by have := hk _ q; omega)⟩
theorem MlS.put {w : World} {H : Nat} {m m' : Ml} {W W' : World} (h : MlS w H m W) (k : Chg (fun i => i = H + 1) W W') (hb : Blk W' (H + 1) m'.cells 27) : MlS w H m' W' :=
  have hlt : H ≤ W.heap.size := Nat.le_of_lt h.res.lt
  ⟨k.below h.low (fun i q => by omega) hlt, h.res.chg k (fun q => by omega), hb, h.s1.chg k (fun q => by omega), h.a1.chg k (fun q => by omega), h.l1.chg k (fun q => by omega), h.s2.chg k (fun q => by omega), h.a2.chg k (fun q => by omega), h.l2.chg k (fun q => by omega)⟩
theorem MlS.t1 {w : World} {H : Nat} {m : Ml} {W : World} (h : MlS w H m W) : TxS (H + 5) (H + 4) (H + 3) (H + 1) 10 2 [n7, n8] m.cells W := ⟨h.l1, h.a1, h.s1, h.box⟩
theorem MlS.t2 {w : World} {H : Nat} {m : Ml} {W : World} (h : MlS w H m W) : TxS (H + 8) (H + 7) (H + 6) (H + 1) 11 2 [nFull, nHdrs] m.cells W := ⟨h.l2, h.a2, h.s2, h.box⟩
theorem mail_class (w : World) (hl : Lv w) (H : Nat) (hH : w.heap.size = H) : WClass (H + 9) (H + 2) (mailKeys H) (fun m W => MlS w H m W) := by
  have hlv : ∀ {m : Ml} {W : World}, MlS w H m W → Lv W := fun h => hl.next (hH ▸ h.low)
  have hge : ∀ {m : Ml} {W : World}, MlS w H m W → H ≤ W.heap.size := fun h => Nat.le_of_lt h.res.lt
  refine ⟨fun s W h => hlv h, fun s W W' h k => h.chg (hge h) k (fun i q => q), ?_, ?_⟩
  · intro K hK
    simp only [mailKeys, List.mem_cons, List.not_mem_nil, or_false] at hK
    rcases hK with rfl | rfl | rfl | rfl | rfl | rfl | rfl | rfl
    · exact enters_of Tryz.func43 (by kernel_rfl) rfl
    · exact enters_of Tryz.func40 (by kernel_rfl) rfl
    · exact enters_of Tryz.func40 (by kernel_rfl) rfl
    · exact enters_of Tryz.func45 (by kernel_rfl) rfl
    · exact enters_of Tryz.func47 (by kernel_rfl) rfl
    · exact enters_of Tryz.func49 (by kernel_rfl) rfl
    · exact enters_of Tryz.func52 (by kernel_rfl) rfl
    · exact enters_of Tryz.func54 (by kernel_rfl) rfl
  · intro K hK v m W hW hsz hv
    have hch : ∀ {W' : World}, Chg (fun k => k = H + 1) W W' → Chg (fun k => k < H + 9 ∧ k ≠ H + 2) W W' := fun h => h.mono fun i _ q => ⟨by omega, by omega⟩
    simp only [mailKeys, List.mem_cons, List.not_mem_nil, or_false] at hK
    rcases hK with rfl | rfl | rfl | rfl | rfl | rfl | rfl | rfl
    · exact (cl_size v (H + 1) m W hW.box hv).mono fun _ _ ⟨h1, h2, h3⟩ => ⟨h1, hW.put h3 h2, hch h3⟩
    · exact (cl_text v (H + 5) (H + 4) (H + 3) (H + 1) 10 2 [n7, n8] m.cells rfl (by omega) (by show 10 < 14; omega) (by omega) (by omega) (by omega) hv W hW.t1).mono fun _ _ ⟨h1, h2, h3⟩ => ⟨h1, hW.put h3 h2.bx, hch h3⟩
    · exact (cl_text v (H + 8) (H + 7) (H + 6) (H + 1) 11 2 [nFull, nHdrs] m.cells rfl (by omega) (by show 11 < 14; omega) (by omega) (by omega) (by omega) hv W hW.t2).mono fun _ _ ⟨h1, h2, h3⟩ => ⟨h1, hW.put h3 h2.bx, hch h3⟩
    · exact (cl_envid v (H + 1) m W hW.box hv).mono fun _ _ ⟨h1, h2, h3⟩ => ⟨h1, hW.put h3 h2, hch h3⟩
    · exact (cl_for v (H + 1) m W hW.box hv).mono fun _ _ ⟨h1, h2, h3⟩ => ⟨h1, hW.put h3 h2, hch h3⟩
    · exact (cl_until v (H + 1) m W hW.box hv).mono fun _ _ ⟨h1, h2, h3⟩ => ⟨h1, hW.put h3 h2, hch h3⟩
    · exact (cl_by v (H + 1) m W hW.box hv (fun W' k => hl.next (hH ▸ (k.below hW.low (fun i q => by omega) (hge hW) : Below H w W')))).mono fun _ _ ⟨h1, h2, h3⟩ => ⟨h1, hW.put h3 h2, hch h3⟩
    · exact (cl_pri v (H + 1) m W hW.box hv).mono fun _ _ ⟨h1, h2, h3⟩ => ⟨h1, hW.put h3 h2, hch h3⟩
theorem ml_one (m : Ml) : m.cells.all (·.oneCell') = true := by simp [Ml.cells, Value.oneCell']
theorem heap_at {w : World} {r : Nat} (h : w.heap.size = r) (o : Obj) : (w.alloc o).heap[r]? = some o := h ▸ heap_alloc_new w o
set_option maxHeartbeats 8000000 in
theorem parseMail_any (s : ByteArray) (hs : s.size ≤ 100000000) (w : World) (hl : Lv w) :
    Calls Tryz.prog 13 #[.string s] w fun e w' => e = .returned (.tuple #[.agg (Pm.parseMail s).1.cells, .int .i64 (Pm.parseMail s).2]) ∧ Below w.heap.size w w' := by
  obtain ⟨H, hH⟩ : ∃ H, w.heap.size = H := ⟨_, rfl⟩
  have HC := Aside.mk (mail_class w hl H hH)
  have hmm := @run_makeMap Tryz.prog
  have B0 := ((MB.alloc (w := w) (H := H) (L := []) (W := w) ⟨Below.refl _ w, by omega, by simp⟩ H hH (by omega) Ml.zero.cells 27).alloc (H + 1) (by simp [hH]) (by omega) Ml.zero.cells 27).mapped (.map #[] 0)
  clear hl
  rw [hH]
  go_enter Tryz.func13, Tryz.ntmps13
  go_wp2_with (first | (refine insert_map rfl 81 9 73 Tryz.underlying81 Tryz.underlying9 _ _ _ (by rfl) (H + 2) (by rfl) ⟨#[83, 73, 90, 69]⟩ (by rfl) ((mailKeys H)[0]'(by show 0 < 8; omega)).val (by rfl) (keyEnts 0 ((mailKeys H).take 0)) 0 (heap_at (by simp [hH]) _) (by rfl) ?_; intro w_ hm_ hc_ hs_; have hz : w_.heap.size = H + 3 := hs_.trans (by simp [hH]); have M := Aside.mk hm_; have B := Aside.mk (B0.chg hc_); clear hm_ hc_ hs_ hmm) | (refine insert_map rfl 81 9 73 Tryz.underlying81 Tryz.underlying9 _ _ _ (by rfl) (H + 2) (by rfl) ⟨#[66, 79, 68, 89]⟩ (by rfl) ((mailKeys H)[1]'(by show 1 < 8; omega)).val (by rfl) (keyEnts 0 ((mailKeys H).take 1)) 1 (mold (mold (mold M.out _) _) _) (by rfl) ?_; intro w_ hm_ hc_ hs_; have hz2 : w_.heap.size = H + 6 := hs_.trans (by simp [hz]); have M2 := Aside.mk hm_; have B2 := Aside.mk ((((B.out.alloc (H + 3) hz (by omega) #[.string n7, .string n8] 9).alloc (H + 4) (by simp [hz]) (by omega) #[.pointer (some ⟨H + 1, 10, none⟩)] 72).alloc (H + 5) (by simp [hz]) (by omega) #[.slice (some ⟨H + 3, 0, none⟩) 2 2] 50).chg hc_); clear hm_ hc_ hs_; clear M; have M := M2; clear M2; clear B; have B := B2; clear B2; clear hz; have hz := hz2; clear hz2) | (refine insert_map rfl 81 9 73 Tryz.underlying81 Tryz.underlying9 _ _ _ (by rfl) (H + 2) (by rfl) ⟨#[82, 69, 84]⟩ (by rfl) ((mailKeys H)[2]'(by show 2 < 8; omega)).val (by rfl) (keyEnts 0 ((mailKeys H).take 2)) 2 (mold (mold (mold M.out _) _) _) (by rfl) ?_; intro w_ hm_ hc_ hs_; have hz2 : w_.heap.size = H + 9 := hs_.trans (by simp [hz]); have M2 := Aside.mk hm_; have B2 := Aside.mk ((((B.out.alloc (H + 6) hz (by omega) #[.string nFull, .string nHdrs] 9).alloc (H + 7) (by simp [hz]) (by omega) #[.pointer (some ⟨H + 1, 11, none⟩)] 72).alloc (H + 8) (by simp [hz]) (by omega) #[.slice (some ⟨H + 6, 0, none⟩) 2 2] 50).chg hc_); clear hm_ hc_ hs_; clear M; have M := M2; clear M2; clear B; have B := B2; clear B2; clear hz; have hz := hz2; clear hz2) | (refine insert_map rfl 81 9 73 Tryz.underlying81 Tryz.underlying9 _ _ _ (by rfl) (H + 2) (by rfl) ⟨#[69, 78, 86, 73, 68]⟩ (by rfl) ((mailKeys H)[3]'(by show 3 < 8; omega)).val (by rfl) (keyEnts 0 ((mailKeys H).take 3)) 3 M.out (by rfl) ?_; intro w_ hm_ hc_ hs_; have hz2 : w_.heap.size = H + 9 := hs_.trans (by simp [hz]); have M2 := Aside.mk hm_; have B2 := Aside.mk (B.out.chg hc_); clear hm_ hc_ hs_; clear M; have M := M2; clear M2; clear B; have B := B2; clear B2; clear hz; have hz := hz2; clear hz2) | (refine insert_map rfl 81 9 73 Tryz.underlying81 Tryz.underlying9 _ _ _ (by rfl) (H + 2) (by rfl) ⟨#[72, 79, 76, 68, 70, 79, 82]⟩ (by rfl) ((mailKeys H)[4]'(by show 4 < 8; omega)).val (by rfl) (keyEnts 0 ((mailKeys H).take 4)) 4 M.out (by rfl) ?_; intro w_ hm_ hc_ hs_; have hz2 : w_.heap.size = H + 9 := hs_.trans (by simp [hz]); have M2 := Aside.mk hm_; have B2 := Aside.mk (B.out.chg hc_); clear hm_ hc_ hs_; clear M; have M := M2; clear M2; clear B; have B := B2; clear B2; clear hz; have hz := hz2; clear hz2) | (refine insert_map rfl 81 9 73 Tryz.underlying81 Tryz.underlying9 _ _ _ (by rfl) (H + 2) (by rfl) ⟨#[72, 79, 76, 68, 85, 78, 84, 73, 76]⟩ (by rfl) ((mailKeys H)[5]'(by show 5 < 8; omega)).val (by rfl) (keyEnts 0 ((mailKeys H).take 5)) 5 M.out (by rfl) ?_; intro w_ hm_ hc_ hs_; have hz2 : w_.heap.size = H + 9 := hs_.trans (by simp [hz]); have M2 := Aside.mk hm_; have B2 := Aside.mk (B.out.chg hc_); clear hm_ hc_ hs_; clear M; have M := M2; clear M2; clear B; have B := B2; clear B2; clear hz; have hz := hz2; clear hz2) | (refine insert_map rfl 81 9 73 Tryz.underlying81 Tryz.underlying9 _ _ _ (by rfl) (H + 2) (by rfl) ⟨#[66, 89]⟩ (by rfl) ((mailKeys H)[6]'(by show 6 < 8; omega)).val (by rfl) (keyEnts 0 ((mailKeys H).take 6)) 6 M.out (by rfl) ?_; intro w_ hm_ hc_ hs_; have hz2 : w_.heap.size = H + 9 := hs_.trans (by simp [hz]); have M2 := Aside.mk hm_; have B2 := Aside.mk (B.out.chg hc_); clear hm_ hc_ hs_; clear M; have M := M2; clear M2; clear B; have B := B2; clear B2; clear hz; have hz := hz2; clear hz2) | (refine insert_map rfl 81 9 73 Tryz.underlying81 Tryz.underlying9 _ _ _ (by rfl) (H + 2) (by rfl) ⟨#[77, 84, 45, 80, 82, 73, 79, 82, 73, 84, 89]⟩ (by rfl) ((mailKeys H)[7]'(by show 7 < 8; omega)).val (by rfl) (keyEnts 0 ((mailKeys H).take 7)) 7 M.out (by rfl) ?_; intro w_ hm_ hc_ hs_; have hz2 : w_.heap.size = H + 9 := hs_.trans (by simp [hz]); have M2 := Aside.mk hm_; have B2 := Aside.mk (B.out.chg hc_); clear hm_ hc_ hs_; clear M; have M := M2; clear M2; clear B; have B := B2; clear B2; clear hz; have hz := hz2; clear hz2) | (go_at_call 39; (with_reducible refine (text_any _ _ _ _ _).mono ?_); rintro e w1 ⟨rfl, hw_⟩; subst hw_))
  have hM0 : MlS w H Ml.zero w_ := ⟨B.out.low, B.out.at (by simp), B.out.at (by simp), B.out.at (by simp), B.out.at (by simp), B.out.at (by simp), B.out.at (by simp), B.out.at (by simp), B.out.at (by simp)⟩
  refine (words_at (H + 9) s hs (H + 2) 8 (mailKeys H) _ Ml.zero w_ hz (by omega) M.out HC.out hM0).mono ?_
  rintro e w2 ⟨rfl, hS⟩
  have hp : Pm.parseMail s = _ := rfl
  rw [← all_plain, mail_plain H] at hS
  have hq : wordsAll (mailKeys H) s Ml.zero = wordsAll mailPlain s Ml.zero := by rw [← all_plain, mail_plain H]
  rw [hq]
  obtain ⟨r, hr⟩ : ∃ r, wordsAll mailPlain s Ml.zero = r := ⟨_, rfl⟩
  have HP : Pm.parseMail s = if r.2 ≠ 0 then (Ml.zero, r.2) else if r.1.hF = true ∧ r.1.hU = true then (Ml.zero, 9) else (r.1, 0) := by rw [← hr]; rfl
  rw [hr] at hS ⊢
  obtain ⟨m1, e1⟩ := r
  dsimp only at hS HP ⊢
  clear hp hq hr hM0 hz M B HC
  have S := Aside.mk hS
  have z0 := Blk.cell hS.box 1 (.bool m1.hF) rfl
  have z1 := Blk.cell hS.box 2 (.bool m1.hU) rfl
  clear hS
  have ee : Aside (e1 = 0) ∨ Aside (e1 ≠ 0) := by by_cases h : e1 = 0; exact .inl ⟨h⟩; exact .inr ⟨h⟩
  rcases ee with ee | ee
  · have e3 : (e1 == 0) = true := by simpa using ee.out
    have e4 : (e1 != 0) = false := by simpa using ee.out
    rw [if_neg (by simpa using ee.out)] at HP
    cases hF : m1.hF with
    | true =>
      rw [hF] at z0 HP
      cases hU : m1.hU with
      | true =>
        rw [hU] at z1 HP
        rw [if_pos ⟨rfl, rfl⟩] at HP
        have HP := Lib.hid HP
        clear hF hU
        go_wp2_with (refine store_blk rfl 27 _ _ (by rfl) H (by rfl) Ml.zero.cells Ml.zero.cells 27 S.out.res (by rfl) (by rfl) (by kernel_rfl) (ml_one _) ?_; intro w3 hb3 hc3; clear z0 z1)
        refine bodyPost_ret (results_blk rfl _ _ H rfl _ _ _ hb3 Tryz.underlying27 rfl (by kernel_rfl)) rfl ⟨by rw [HP.out]; rfl, hc3.below S.out.low (fun i q => by omega) (Nat.le_of_lt S.out.res.lt)⟩
      | false =>
        rw [hU] at z1 HP
        rw [if_neg (by simp)] at HP
        have HP := Lib.hid HP
        clear hF hU
        go_wp2_with (first | (refine load_blk rfl 27 _ (by rfl) (H + 1) (by rfl) m1.cells 27 _ S.out.box Tryz.underlying27 rfl (by kernel_rfl) ?_) | (refine store_blk rfl 27 _ _ (by rfl) H (by rfl) Ml.zero.cells m1.cells 27 S.out.res (by rfl) (by rfl) (by kernel_rfl) (ml_one _) ?_; intro w3 hb3 hc3; clear z0 z1))
        refine bodyPost_ret (results_blk rfl _ _ H rfl _ _ _ hb3 Tryz.underlying27 rfl (by kernel_rfl)) rfl ⟨by rw [HP.out]; rfl, hc3.below S.out.low (fun i q => by omega) (Nat.le_of_lt S.out.res.lt)⟩
    | false =>
      rw [hF] at z0 HP
      rw [if_neg (by simp)] at HP
      have HP := Lib.hid HP
      clear hF
      go_wp2_with (first | (refine load_blk rfl 27 _ (by rfl) (H + 1) (by rfl) m1.cells 27 _ S.out.box Tryz.underlying27 rfl (by kernel_rfl) ?_) | (refine store_blk rfl 27 _ _ (by rfl) H (by rfl) Ml.zero.cells m1.cells 27 S.out.res (by rfl) (by rfl) (by kernel_rfl) (ml_one _) ?_; intro w3 hb3 hc3; clear z0 z1))
      refine bodyPost_ret (results_blk rfl _ _ H rfl _ _ _ hb3 Tryz.underlying27 rfl (by kernel_rfl)) rfl ⟨by rw [HP.out]; rfl, hc3.below S.out.low (fun i q => by omega) (Nat.le_of_lt S.out.res.lt)⟩
  · have e3 : (e1 == 0) = false := by simpa using ee.out
    have e4 : (e1 != 0) = true := by simpa using ee.out
    rw [if_pos (by simpa using ee.out)] at HP
    have HP := Lib.hid HP
    go_wp2_with (refine store_blk rfl 27 _ _ (by rfl) H (by rfl) Ml.zero.cells Ml.zero.cells 27 S.out.res (by rfl) (by rfl) (by kernel_rfl) (ml_one _) ?_; intro w3 hb3 hc3; clear z0 z1)
    refine bodyPost_ret (results_blk rfl _ _ H rfl _ _ _ hb3 Tryz.underlying27 rfl (by kernel_rfl)) rfl ⟨by rw [HP.out]; rfl, hc3.below S.out.low (fun i q => by omega) (Nat.le_of_lt S.out.res.lt)⟩
end Go.Proofs.YtllhbcpbihhdnaaGreatDoor
