/-
  Where mail goes: Parse: the ways of a text between quotes.
-/
import Derived.Test.YtllhbcpbihhdnaaGreatDoorQPtPa
set_option linter.unusedVariables false
set_option linter.unusedSimpArgs false
namespace Go.Proofs.YtllhbcpbihhdnaaGreatDoor
open Go.RowKit Go.Shelf
set_option maxRecDepth 100000
theorem pre_pos {t : ByteArray} {b : UInt8} (h : Lib.hasPrefix t.data.toList [b] = true) : 0 < t.size := by
  obtain ⟨r, hr⟩ := pre_one.1 h
  have : t.data.toList.length = t.size := by simp
  rw [hr] at this
  simp at this
  omega
set_option maxHeartbeats 8000000 in
theorem pathParse_q1 (s : ByteArray) (hs : s.size ≤ 100000) (t : ByteArray) (h1 : Lib.hasPrefix s.data.toList [60] = true) (ht : (⟨(Lib.trimPrefix s.data.toList [60]).toArray⟩ : ByteArray) = t) (h2 : Lib.hasPrefix t.data.toList [62] = false) (hts : t.size ≤ 100000) (h3 : Lib.hasPrefix t.data.toList [34] = true) (lo rest : ByteArray) (hrs : rest.size ≤ 100000) (q1 : (⟨(Pt.quo t.data.toList).1.toArray⟩ : ByteArray) = lo) (q2 : (⟨(Pt.quo t.data.toList).2.1.toArray⟩ : ByteArray) = rest) (q3 : (Pt.quo t.data.toList).2.2 = false)  (w : World) (hl : Lv w) : Calls Tryz.prog 12 #[.string s] w fun e w' => e = .returned (.tuple #[.agg #[.string ⟨#[]⟩, .string ⟨#[]⟩], .string ⟨#[]⟩, .int .i64 2]) ∧ Below w.heap.size w w' := by
  have cp1 := fun W => Tryz.strings_CutPrefix s ⟨#[60]⟩ W
  change ∀ W, Calls _ _ _ W (fun e w' => e = .returned (.tuple #[.string ⟨(Lib.trimPrefix s.data.toList [60]).toArray⟩, .bool (Lib.hasPrefix s.data.toList [60])]) ∧ _) at cp1
  rw [h1, ht] at cp1
  have cp2 := fun W => Tryz.strings_CutPrefix t ⟨#[62]⟩ W
  change ∀ W, Calls _ _ _ W (fun e w' => e = .returned (.tuple #[.string ⟨(Lib.trimPrefix t.data.toList [62]).toArray⟩, .bool (Lib.hasPrefix t.data.toList [62])]) ∧ _) at cp2
  rw [h2] at cp2
  have hp := fun W => Tryz.strings_HasPrefix t ⟨#[34]⟩ W
  change ∀ W, Calls _ _ _ W (fun e w' => e = .returned (.bool (Lib.hasPrefix t.data.toList [34])) ∧ _) at hp
  rw [h3] at hp
  have hqu := fun W => quoted_any t (by have := pre_pos h3; omega) (by omega) W
  rw [q1, q2, q3] at hqu
  clear h1 h2 h3 ht hts q1 q2 q3 hrs
  have hno := fun W => none_any W
  obtain ⟨H, hH⟩ : ∃ H, w.heap.size = H := ⟨_, rfl⟩
  have HLv : Aside (∀ W, Below H w W → Lv W) := ⟨fun W h => hl.next (hH ▸ h)⟩
  have SS : Aside (Blk (w.alloc (.cells #[.string ⟨#[]⟩, .string ⟨#[]⟩] 23)) H #[.string ⟨#[]⟩, .string ⟨#[]⟩] 23 ∧ Below H w (w.alloc (.cells #[.string ⟨#[]⟩, .string ⟨#[]⟩] 23))) := ⟨hH ▸ Blk.new (w := w) #[.string ⟨#[]⟩, .string ⟨#[]⟩] 23, (Below.refl _ w).alloc (by omega) _⟩
  clear hl
  rw [hH]
  go_enter Tryz.func12, Tryz.ntmps12
  go_wp2_with (first | (go_at_call 31; (first | (with_reducible refine (cp1 _).mono ?_) | (with_reducible refine (cp2 _).mono ?_)); rintro e w_ ⟨rfl, hw_⟩; have hw2_ := hw_.symm; subst hw2_; clear hw_) | (go_at_call 32; (with_reducible refine (hp _).mono ?_); rintro e w_ ⟨rfl, hw_⟩; have hw2_ := hw_.symm; subst hw2_; clear hw_) | (go_at_call 33; (with_reducible refine (hqu _).mono ?_); rintro e W_ ⟨rfl, hb_⟩; replace SS := Aside.mk (show Blk _ H _ _ ∧ Below H _ _ from ⟨SS.out.1.below hb_, SS.out.2.trans (hb_.mono (by have := SS.out.2.size; omega))⟩); clear hb_) | (go_at_call 30; (with_reducible refine (hno _).mono ?_); rintro e W_ ⟨rfl, hb_⟩; replace SS := Aside.mk (show Blk _ H _ _ ∧ Below H _ _ from ⟨SS.out.1.below hb_, SS.out.2.trans (hb_.mono (by have := SS.out.2.size; omega))⟩); clear hb_) | ((with_reducible refine at_store (p := 2) rfl ?_); refine store_blk rfl 23 _ _ (by rfl) H (by rfl) #[.string ⟨#[]⟩, .string ⟨#[]⟩] #[.string ⟨#[]⟩, .string ⟨#[]⟩] 23 SS.out.1 (by rfl) (by rfl) (by kernel_rfl) (by simp [Value.oneCell']) ?_; intro w5 hb5 hc5; have B5 := Aside.mk hb5; have L5 := Aside.mk (show Below H w w5 from hc5.below SS.out.2 (fun k hk => Nat.le_of_eq hk.symm) (by have := SS.out.2.size; omega)); clear hb5 hc5))
  refine bodyPost_ret (results_blk3 (by rfl) _ _ H (by rfl) #[.string ⟨#[]⟩, .string ⟨#[]⟩] 23 _ B5.out Tryz.underlying23 rfl (by kernel_rfl)) rfl ⟨?_, L5.out⟩
  rfl
set_option maxHeartbeats 8000000 in
theorem pathParse_q2 (s : ByteArray) (hs : s.size ≤ 100000) (t : ByteArray) (h1 : Lib.hasPrefix s.data.toList [60] = true) (ht : (⟨(Lib.trimPrefix s.data.toList [60]).toArray⟩ : ByteArray) = t) (h2 : Lib.hasPrefix t.data.toList [62] = false) (hts : t.size ≤ 100000) (h3 : Lib.hasPrefix t.data.toList [34] = true) (lo rest : ByteArray) (hrs : rest.size ≤ 100000) (q1 : (⟨(Pt.quo t.data.toList).1.toArray⟩ : ByteArray) = lo) (q2 : (⟨(Pt.quo t.data.toList).2.1.toArray⟩ : ByteArray) = rest) (q3 : (Pt.quo t.data.toList).2.2 = true) (q4 : lo.toList.isEmpty = true) (w : World) (hl : Lv w) : Calls Tryz.prog 12 #[.string s] w fun e w' => e = .returned (.tuple #[.agg #[.string ⟨#[]⟩, .string ⟨#[]⟩], .string ⟨#[]⟩, .int .i64 2]) ∧ Below w.heap.size w w' := by
  have cp1 := fun W => Tryz.strings_CutPrefix s ⟨#[60]⟩ W
  change ∀ W, Calls _ _ _ W (fun e w' => e = .returned (.tuple #[.string ⟨(Lib.trimPrefix s.data.toList [60]).toArray⟩, .bool (Lib.hasPrefix s.data.toList [60])]) ∧ _) at cp1
  rw [h1, ht] at cp1
  have cp2 := fun W => Tryz.strings_CutPrefix t ⟨#[62]⟩ W
  change ∀ W, Calls _ _ _ W (fun e w' => e = .returned (.tuple #[.string ⟨(Lib.trimPrefix t.data.toList [62]).toArray⟩, .bool (Lib.hasPrefix t.data.toList [62])]) ∧ _) at cp2
  rw [h2] at cp2
  have hp := fun W => Tryz.strings_HasPrefix t ⟨#[34]⟩ W
  change ∀ W, Calls _ _ _ W (fun e w' => e = .returned (.bool (Lib.hasPrefix t.data.toList [34])) ∧ _) at hp
  rw [h3] at hp
  have hqu := fun W => quoted_any t (by have := pre_pos h3; omega) (by omega) W
  rw [q1, q2, q3] at hqu
  clear h1 h2 h3 ht hts q1 q2 q3 hrs
  have hno := fun W => none_any W
  obtain ⟨H, hH⟩ : ∃ H, w.heap.size = H := ⟨_, rfl⟩
  have HLv : Aside (∀ W, Below H w W → Lv W) := ⟨fun W h => hl.next (hH ▸ h)⟩
  have SS : Aside (Blk (w.alloc (.cells #[.string ⟨#[]⟩, .string ⟨#[]⟩] 23)) H #[.string ⟨#[]⟩, .string ⟨#[]⟩] 23 ∧ Below H w (w.alloc (.cells #[.string ⟨#[]⟩, .string ⟨#[]⟩] 23))) := ⟨hH ▸ Blk.new (w := w) #[.string ⟨#[]⟩, .string ⟨#[]⟩] 23, (Below.refl _ w).alloc (by omega) _⟩
  clear hl
  rw [hH]
  go_enter Tryz.func12, Tryz.ntmps12
  go_wp2_with (first | (go_at_call 31; (first | (with_reducible refine (cp1 _).mono ?_) | (with_reducible refine (cp2 _).mono ?_)); rintro e w_ ⟨rfl, hw_⟩; have hw2_ := hw_.symm; subst hw2_; clear hw_) | (go_at_call 32; (with_reducible refine (hp _).mono ?_); rintro e w_ ⟨rfl, hw_⟩; have hw2_ := hw_.symm; subst hw2_; clear hw_) | (go_at_call 33; (with_reducible refine (hqu _).mono ?_); rintro e W_ ⟨rfl, hb_⟩; replace SS := Aside.mk (show Blk _ H _ _ ∧ Below H _ _ from ⟨SS.out.1.below hb_, SS.out.2.trans (hb_.mono (by have := SS.out.2.size; omega))⟩); clear hb_) | (go_at_call 30; (with_reducible refine (hno _).mono ?_); rintro e W_ ⟨rfl, hb_⟩; replace SS := Aside.mk (show Blk _ H _ _ ∧ Below H _ _ from ⟨SS.out.1.below hb_, SS.out.2.trans (hb_.mono (by have := SS.out.2.size; omega))⟩); clear hb_) | ((with_reducible refine at_store (p := 2) rfl ?_); refine store_blk rfl 23 _ _ (by rfl) H (by rfl) #[.string ⟨#[]⟩, .string ⟨#[]⟩] #[.string ⟨#[]⟩, .string ⟨#[]⟩] 23 SS.out.1 (by rfl) (by rfl) (by kernel_rfl) (by simp [Value.oneCell']) ?_; intro w5 hb5 hc5; have B5 := Aside.mk hb5; have L5 := Aside.mk (show Below H w w5 from hc5.below SS.out.2 (fun k hk => Nat.le_of_eq hk.symm) (by have := SS.out.2.size; omega)); clear hb5 hc5))
  refine bodyPost_ret (results_blk3 (by rfl) _ _ H (by rfl) #[.string ⟨#[]⟩, .string ⟨#[]⟩] 23 _ B5.out Tryz.underlying23 rfl (by kernel_rfl)) rfl ⟨?_, L5.out⟩
  rfl
set_option maxHeartbeats 8000000 in
theorem pathParse_u1 (s : ByteArray) (hs : s.size ≤ 100000) (t : ByteArray) (h1 : Lib.hasPrefix s.data.toList [60] = true) (ht : (⟨(Lib.trimPrefix s.data.toList [60]).toArray⟩ : ByteArray) = t) (h2 : Lib.hasPrefix t.data.toList [62] = false) (hts : t.size ≤ 100000) (h3 : Lib.hasPrefix t.data.toList [34] = true) (lo rest : ByteArray) (hrs : rest.size ≤ 100000) (q1 : (⟨(Pt.quo t.data.toList).1.toArray⟩ : ByteArray) = lo) (q2 : (⟨(Pt.quo t.data.toList).2.1.toArray⟩ : ByteArray) = rest) (q3 : (Pt.quo t.data.toList).2.2 = true) (q4 : lo.toList.isEmpty = false) (a b : ByteArray) (c1 : (⟨(Lib.cut rest.data.toList [62]).1.toArray⟩ : ByteArray) = a) (c2 : (⟨(Lib.cut rest.data.toList [62]).2.1.toArray⟩ : ByteArray) = b) (c3 : (Lib.cut rest.data.toList [62]).2.2 = false)  (w : World) (hl : Lv w) : Calls Tryz.prog 12 #[.string s] w fun e w' => e = .returned (.tuple #[.agg #[.string ⟨#[]⟩, .string ⟨#[]⟩], .string ⟨#[]⟩, .int .i64 2]) ∧ Below w.heap.size w w' := by
  have cp1 := fun W => Tryz.strings_CutPrefix s ⟨#[60]⟩ W
  change ∀ W, Calls _ _ _ W (fun e w' => e = .returned (.tuple #[.string ⟨(Lib.trimPrefix s.data.toList [60]).toArray⟩, .bool (Lib.hasPrefix s.data.toList [60])]) ∧ _) at cp1
  rw [h1, ht] at cp1
  have cp2 := fun W => Tryz.strings_CutPrefix t ⟨#[62]⟩ W
  change ∀ W, Calls _ _ _ W (fun e w' => e = .returned (.tuple #[.string ⟨(Lib.trimPrefix t.data.toList [62]).toArray⟩, .bool (Lib.hasPrefix t.data.toList [62])]) ∧ _) at cp2
  rw [h2] at cp2
  have hp := fun W => Tryz.strings_HasPrefix t ⟨#[34]⟩ W
  change ∀ W, Calls _ _ _ W (fun e w' => e = .returned (.bool (Lib.hasPrefix t.data.toList [34])) ∧ _) at hp
  rw [h3] at hp
  have hqu := fun W => quoted_any t (by have := pre_pos h3; omega) (by omega) W
  rw [q1, q2, q3] at hqu
  have hcu := fun W (hW : Lv W) => cut_any rest ⟨#[62]⟩ W hW (by omega)
  change ∀ W, Lv W → Calls _ _ _ W (fun e w' => e = .returned (.tuple #[.string ⟨(Lib.cut rest.data.toList [62]).1.toArray⟩, .string ⟨(Lib.cut rest.data.toList [62]).2.1.toArray⟩, .bool (Lib.cut rest.data.toList [62]).2.2]) ∧ _) at hcu
  rw [c1, c2, c3] at hcu
  have cp4 := fun W => Tryz.strings_CutPrefix a ⟨#[64]⟩ W
  change ∀ W, Calls _ _ _ W (fun e w' => e = .returned (.tuple #[.string ⟨(Lib.trimPrefix a.data.toList [64]).toArray⟩, .bool (Lib.hasPrefix a.data.toList [64])]) ∧ _) at cp4
  clear h1 h2 h3 ht hts q1 q2 q3 hrs c1 c2 c3
  have hno := fun W => none_any W
  obtain ⟨H, hH⟩ : ∃ H, w.heap.size = H := ⟨_, rfl⟩
  have HLv : Aside (∀ W, Below H w W → Lv W) := ⟨fun W h => hl.next (hH ▸ h)⟩
  have SS : Aside (Blk (w.alloc (.cells #[.string ⟨#[]⟩, .string ⟨#[]⟩] 23)) H #[.string ⟨#[]⟩, .string ⟨#[]⟩] 23 ∧ Below H w (w.alloc (.cells #[.string ⟨#[]⟩, .string ⟨#[]⟩] 23))) := ⟨hH ▸ Blk.new (w := w) #[.string ⟨#[]⟩, .string ⟨#[]⟩] 23, (Below.refl _ w).alloc (by omega) _⟩
  clear hl
  rw [hH]
  go_enter Tryz.func12, Tryz.ntmps12
  go_wp2_with (first | (go_at_call 31; (first | (with_reducible refine (cp1 _).mono ?_) | (with_reducible refine (cp2 _).mono ?_) | (with_reducible refine (cp4 _).mono ?_)); rintro e w_ ⟨rfl, hw_⟩; have hw2_ := hw_.symm; subst hw2_; clear hw_) | (go_at_call 32; (with_reducible refine (hp _).mono ?_); rintro e w_ ⟨rfl, hw_⟩; have hw2_ := hw_.symm; subst hw2_; clear hw_) | (go_at_call 33; (with_reducible refine (hqu _).mono ?_); rintro e W_ ⟨rfl, hb_⟩; replace SS := Aside.mk (show Blk _ H _ _ ∧ Below H _ _ from ⟨SS.out.1.below hb_, SS.out.2.trans (hb_.mono (by have := SS.out.2.size; omega))⟩); clear hb_) | (go_at_call 24; (with_reducible refine (hcu _ (HLv.out _ SS.out.2)).mono ?_); rintro e W_ ⟨rfl, hb_⟩; replace SS := Aside.mk (show Blk _ H _ _ ∧ Below H _ _ from ⟨SS.out.1.below hb_, SS.out.2.trans (hb_.mono (by have := SS.out.2.size; omega))⟩); clear hb_) | (go_at_call 30; (with_reducible refine (hno _).mono ?_); rintro e W_ ⟨rfl, hb_⟩; replace SS := Aside.mk (show Blk _ H _ _ ∧ Below H _ _ from ⟨SS.out.1.below hb_, SS.out.2.trans (hb_.mono (by have := SS.out.2.size; omega))⟩); clear hb_) | ((with_reducible refine at_store (p := 2) rfl ?_); refine store_blk rfl 23 _ _ (by rfl) H (by rfl) #[.string ⟨#[]⟩, .string ⟨#[]⟩] #[.string ⟨#[]⟩, .string ⟨#[]⟩] 23 SS.out.1 (by rfl) (by rfl) (by kernel_rfl) (by simp [Value.oneCell']) ?_; intro w5 hb5 hc5; have B5 := Aside.mk hb5; have L5 := Aside.mk (show Below H w w5 from hc5.below SS.out.2 (fun k hk => Nat.le_of_eq hk.symm) (by have := SS.out.2.size; omega)); clear hb5 hc5))
  refine bodyPost_ret (results_blk3 (by rfl) _ _ H (by rfl) #[.string ⟨#[]⟩, .string ⟨#[]⟩] 23 _ B5.out Tryz.underlying23 rfl (by kernel_rfl)) rfl ⟨?_, L5.out⟩
  rfl
set_option maxHeartbeats 8000000 in
theorem pathParse_u2 (s : ByteArray) (hs : s.size ≤ 100000) (t : ByteArray) (h1 : Lib.hasPrefix s.data.toList [60] = true) (ht : (⟨(Lib.trimPrefix s.data.toList [60]).toArray⟩ : ByteArray) = t) (h2 : Lib.hasPrefix t.data.toList [62] = false) (hts : t.size ≤ 100000) (h3 : Lib.hasPrefix t.data.toList [34] = true) (lo rest : ByteArray) (hrs : rest.size ≤ 100000) (q1 : (⟨(Pt.quo t.data.toList).1.toArray⟩ : ByteArray) = lo) (q2 : (⟨(Pt.quo t.data.toList).2.1.toArray⟩ : ByteArray) = rest) (q3 : (Pt.quo t.data.toList).2.2 = true) (q4 : lo.toList.isEmpty = false) (a b : ByteArray) (c1 : (⟨(Lib.cut rest.data.toList [62]).1.toArray⟩ : ByteArray) = a) (c2 : (⟨(Lib.cut rest.data.toList [62]).2.1.toArray⟩ : ByteArray) = b) (c3 : (Lib.cut rest.data.toList [62]).2.2 = true) (a2 : ByteArray) (g1 : (⟨(Lib.trimPrefix a.data.toList [64]).toArray⟩ : ByteArray) = a2) (g2 : Lib.hasPrefix a.data.toList [64] = false)  (w : World) (hl : Lv w) : Calls Tryz.prog 12 #[.string s] w fun e w' => e = .returned (.tuple #[.agg #[.string ⟨#[]⟩, .string ⟨#[]⟩], .string ⟨#[]⟩, .int .i64 2]) ∧ Below w.heap.size w w' := by
  have cp1 := fun W => Tryz.strings_CutPrefix s ⟨#[60]⟩ W
  change ∀ W, Calls _ _ _ W (fun e w' => e = .returned (.tuple #[.string ⟨(Lib.trimPrefix s.data.toList [60]).toArray⟩, .bool (Lib.hasPrefix s.data.toList [60])]) ∧ _) at cp1
  rw [h1, ht] at cp1
  have cp2 := fun W => Tryz.strings_CutPrefix t ⟨#[62]⟩ W
  change ∀ W, Calls _ _ _ W (fun e w' => e = .returned (.tuple #[.string ⟨(Lib.trimPrefix t.data.toList [62]).toArray⟩, .bool (Lib.hasPrefix t.data.toList [62])]) ∧ _) at cp2
  rw [h2] at cp2
  have hp := fun W => Tryz.strings_HasPrefix t ⟨#[34]⟩ W
  change ∀ W, Calls _ _ _ W (fun e w' => e = .returned (.bool (Lib.hasPrefix t.data.toList [34])) ∧ _) at hp
  rw [h3] at hp
  have hqu := fun W => quoted_any t (by have := pre_pos h3; omega) (by omega) W
  rw [q1, q2, q3] at hqu
  have hcu := fun W (hW : Lv W) => cut_any rest ⟨#[62]⟩ W hW (by omega)
  change ∀ W, Lv W → Calls _ _ _ W (fun e w' => e = .returned (.tuple #[.string ⟨(Lib.cut rest.data.toList [62]).1.toArray⟩, .string ⟨(Lib.cut rest.data.toList [62]).2.1.toArray⟩, .bool (Lib.cut rest.data.toList [62]).2.2]) ∧ _) at hcu
  rw [c1, c2, c3] at hcu
  have cp4 := fun W => Tryz.strings_CutPrefix a ⟨#[64]⟩ W
  change ∀ W, Calls _ _ _ W (fun e w' => e = .returned (.tuple #[.string ⟨(Lib.trimPrefix a.data.toList [64]).toArray⟩, .bool (Lib.hasPrefix a.data.toList [64])]) ∧ _) at cp4
  rw [g1, g2] at cp4
  clear h1 h2 h3 ht hts q1 q2 q3 hrs c1 c2 c3 g1 g2
  have hno := fun W => none_any W
  obtain ⟨H, hH⟩ : ∃ H, w.heap.size = H := ⟨_, rfl⟩
  have HLv : Aside (∀ W, Below H w W → Lv W) := ⟨fun W h => hl.next (hH ▸ h)⟩
  have SS : Aside (Blk (w.alloc (.cells #[.string ⟨#[]⟩, .string ⟨#[]⟩] 23)) H #[.string ⟨#[]⟩, .string ⟨#[]⟩] 23 ∧ Below H w (w.alloc (.cells #[.string ⟨#[]⟩, .string ⟨#[]⟩] 23))) := ⟨hH ▸ Blk.new (w := w) #[.string ⟨#[]⟩, .string ⟨#[]⟩] 23, (Below.refl _ w).alloc (by omega) _⟩
  clear hl
  rw [hH]
  go_enter Tryz.func12, Tryz.ntmps12
  go_wp2_with (first | (go_at_call 31; (first | (with_reducible refine (cp1 _).mono ?_) | (with_reducible refine (cp2 _).mono ?_) | (with_reducible refine (cp4 _).mono ?_)); rintro e w_ ⟨rfl, hw_⟩; have hw2_ := hw_.symm; subst hw2_; clear hw_) | (go_at_call 32; (with_reducible refine (hp _).mono ?_); rintro e w_ ⟨rfl, hw_⟩; have hw2_ := hw_.symm; subst hw2_; clear hw_) | (go_at_call 33; (with_reducible refine (hqu _).mono ?_); rintro e W_ ⟨rfl, hb_⟩; replace SS := Aside.mk (show Blk _ H _ _ ∧ Below H _ _ from ⟨SS.out.1.below hb_, SS.out.2.trans (hb_.mono (by have := SS.out.2.size; omega))⟩); clear hb_) | (go_at_call 24; (with_reducible refine (hcu _ (HLv.out _ SS.out.2)).mono ?_); rintro e W_ ⟨rfl, hb_⟩; replace SS := Aside.mk (show Blk _ H _ _ ∧ Below H _ _ from ⟨SS.out.1.below hb_, SS.out.2.trans (hb_.mono (by have := SS.out.2.size; omega))⟩); clear hb_) | (go_at_call 30; (with_reducible refine (hno _).mono ?_); rintro e W_ ⟨rfl, hb_⟩; replace SS := Aside.mk (show Blk _ H _ _ ∧ Below H _ _ from ⟨SS.out.1.below hb_, SS.out.2.trans (hb_.mono (by have := SS.out.2.size; omega))⟩); clear hb_) | ((with_reducible refine at_store (p := 2) rfl ?_); refine store_blk rfl 23 _ _ (by rfl) H (by rfl) #[.string ⟨#[]⟩, .string ⟨#[]⟩] #[.string ⟨#[]⟩, .string ⟨#[]⟩] 23 SS.out.1 (by rfl) (by rfl) (by kernel_rfl) (by simp [Value.oneCell']) ?_; intro w5 hb5 hc5; have B5 := Aside.mk hb5; have L5 := Aside.mk (show Below H w w5 from hc5.below SS.out.2 (fun k hk => Nat.le_of_eq hk.symm) (by have := SS.out.2.size; omega)); clear hb5 hc5))
  refine bodyPost_ret (results_blk3 (by rfl) _ _ H (by rfl) #[.string ⟨#[]⟩, .string ⟨#[]⟩] 23 _ B5.out Tryz.underlying23 rfl (by kernel_rfl)) rfl ⟨?_, L5.out⟩
  rfl
set_option maxHeartbeats 8000000 in
theorem pathParse_u3 (s : ByteArray) (hs : s.size ≤ 100000) (t : ByteArray) (h1 : Lib.hasPrefix s.data.toList [60] = true) (ht : (⟨(Lib.trimPrefix s.data.toList [60]).toArray⟩ : ByteArray) = t) (h2 : Lib.hasPrefix t.data.toList [62] = false) (hts : t.size ≤ 100000) (h3 : Lib.hasPrefix t.data.toList [34] = true) (lo rest : ByteArray) (hrs : rest.size ≤ 100000) (q1 : (⟨(Pt.quo t.data.toList).1.toArray⟩ : ByteArray) = lo) (q2 : (⟨(Pt.quo t.data.toList).2.1.toArray⟩ : ByteArray) = rest) (q3 : (Pt.quo t.data.toList).2.2 = true) (q4 : lo.toList.isEmpty = false) (a b : ByteArray) (c1 : (⟨(Lib.cut rest.data.toList [62]).1.toArray⟩ : ByteArray) = a) (c2 : (⟨(Lib.cut rest.data.toList [62]).2.1.toArray⟩ : ByteArray) = b) (c3 : (Lib.cut rest.data.toList [62]).2.2 = true) (a2 : ByteArray) (g1 : (⟨(Lib.trimPrefix a.data.toList [64]).toArray⟩ : ByteArray) = a2) (g2 : Lib.hasPrefix a.data.toList [64] = true) (has2 : a2.size ≤ 100000) (d : ByteArray) (g3 : (⟨(Pt.domain a2.data.toList).1.toArray⟩ : ByteArray) = d) (g4 : (Pt.domain a2.data.toList).2 = 3) (g5 : Pt.shaped a2.data.toList = true) (w : World) (hl : Lv w) : Calls Tryz.prog 12 #[.string s] w fun e w' => e = .returned (.tuple #[.agg #[.string ⟨#[]⟩, .string ⟨#[]⟩], .string ⟨#[]⟩, .int .i64 3]) ∧ Below w.heap.size w w' := by
  have cp1 := fun W => Tryz.strings_CutPrefix s ⟨#[60]⟩ W
  change ∀ W, Calls _ _ _ W (fun e w' => e = .returned (.tuple #[.string ⟨(Lib.trimPrefix s.data.toList [60]).toArray⟩, .bool (Lib.hasPrefix s.data.toList [60])]) ∧ _) at cp1
  rw [h1, ht] at cp1
  have cp2 := fun W => Tryz.strings_CutPrefix t ⟨#[62]⟩ W
  change ∀ W, Calls _ _ _ W (fun e w' => e = .returned (.tuple #[.string ⟨(Lib.trimPrefix t.data.toList [62]).toArray⟩, .bool (Lib.hasPrefix t.data.toList [62])]) ∧ _) at cp2
  rw [h2] at cp2
  have hp := fun W => Tryz.strings_HasPrefix t ⟨#[34]⟩ W
  change ∀ W, Calls _ _ _ W (fun e w' => e = .returned (.bool (Lib.hasPrefix t.data.toList [34])) ∧ _) at hp
  rw [h3] at hp
  have hqu := fun W => quoted_any t (by have := pre_pos h3; omega) (by omega) W
  rw [q1, q2, q3] at hqu
  have hcu := fun W (hW : Lv W) => cut_any rest ⟨#[62]⟩ W hW (by omega)
  change ∀ W, Lv W → Calls _ _ _ W (fun e w' => e = .returned (.tuple #[.string ⟨(Lib.cut rest.data.toList [62]).1.toArray⟩, .string ⟨(Lib.cut rest.data.toList [62]).2.1.toArray⟩, .bool (Lib.cut rest.data.toList [62]).2.2]) ∧ _) at hcu
  rw [c1, c2, c3] at hcu
  have cp4 := fun W => Tryz.strings_CutPrefix a ⟨#[64]⟩ W
  change ∀ W, Calls _ _ _ W (fun e w' => e = .returned (.tuple #[.string ⟨(Lib.trimPrefix a.data.toList [64]).toArray⟩, .bool (Lib.hasPrefix a.data.toList [64])]) ∧ _) at cp4
  rw [g1, g2] at cp4
  have hdm := fun W => domain_any a2 W
  rw [g3, g4] at hdm
  have hsh := fun W => shaped_any a2 (by omega) W
  rw [g5] at hsh
  clear h1 h2 h3 ht hts q1 q2 q3 hrs c1 c2 c3 g1 g2 g3 g4 g5 has2
  have hno := fun W => none_any W
  obtain ⟨H, hH⟩ : ∃ H, w.heap.size = H := ⟨_, rfl⟩
  have HLv : Aside (∀ W, Below H w W → Lv W) := ⟨fun W h => hl.next (hH ▸ h)⟩
  have SS : Aside (Blk (w.alloc (.cells #[.string ⟨#[]⟩, .string ⟨#[]⟩] 23)) H #[.string ⟨#[]⟩, .string ⟨#[]⟩] 23 ∧ Below H w (w.alloc (.cells #[.string ⟨#[]⟩, .string ⟨#[]⟩] 23))) := ⟨hH ▸ Blk.new (w := w) #[.string ⟨#[]⟩, .string ⟨#[]⟩] 23, (Below.refl _ w).alloc (by omega) _⟩
  clear hl
  rw [hH]
  go_enter Tryz.func12, Tryz.ntmps12
  go_wp2_with (first | (go_at_call 31; (first | (with_reducible refine (cp1 _).mono ?_) | (with_reducible refine (cp2 _).mono ?_) | (with_reducible refine (cp4 _).mono ?_)); rintro e w_ ⟨rfl, hw_⟩; have hw2_ := hw_.symm; subst hw2_; clear hw_) | (go_at_call 32; (with_reducible refine (hp _).mono ?_); rintro e w_ ⟨rfl, hw_⟩; have hw2_ := hw_.symm; subst hw2_; clear hw_) | (go_at_call 33; (with_reducible refine (hqu _).mono ?_); rintro e W_ ⟨rfl, hb_⟩; replace SS := Aside.mk (show Blk _ H _ _ ∧ Below H _ _ from ⟨SS.out.1.below hb_, SS.out.2.trans (hb_.mono (by have := SS.out.2.size; omega))⟩); clear hb_) | (go_at_call 24; (with_reducible refine (hcu _ (HLv.out _ SS.out.2)).mono ?_); rintro e W_ ⟨rfl, hb_⟩; replace SS := Aside.mk (show Blk _ H _ _ ∧ Below H _ _ from ⟨SS.out.1.below hb_, SS.out.2.trans (hb_.mono (by have := SS.out.2.size; omega))⟩); clear hb_) | (go_at_call 37; (with_reducible refine (hdm _).mono ?_); rintro e W_ ⟨rfl, hb_⟩; replace SS := Aside.mk (show Blk _ H _ _ ∧ Below H _ _ from ⟨SS.out.1.below hb_, SS.out.2.trans (hb_.mono (by have := SS.out.2.size; omega))⟩); clear hb_) | (go_at_call 38; (with_reducible refine (hsh _).mono ?_); rintro e W_ ⟨rfl, hb_⟩; replace SS := Aside.mk (show Blk _ H _ _ ∧ Below H _ _ from ⟨SS.out.1.below hb_, SS.out.2.trans (hb_.mono (by have := SS.out.2.size; omega))⟩); clear hb_) | (go_at_call 30; (with_reducible refine (hno _).mono ?_); rintro e W_ ⟨rfl, hb_⟩; replace SS := Aside.mk (show Blk _ H _ _ ∧ Below H _ _ from ⟨SS.out.1.below hb_, SS.out.2.trans (hb_.mono (by have := SS.out.2.size; omega))⟩); clear hb_) | ((with_reducible refine at_store (p := 2) rfl ?_); refine store_blk rfl 23 _ _ (by rfl) H (by rfl) #[.string ⟨#[]⟩, .string ⟨#[]⟩] #[.string ⟨#[]⟩, .string ⟨#[]⟩] 23 SS.out.1 (by rfl) (by rfl) (by kernel_rfl) (by simp [Value.oneCell']) ?_; intro w5 hb5 hc5; have B5 := Aside.mk hb5; have L5 := Aside.mk (show Below H w w5 from hc5.below SS.out.2 (fun k hk => Nat.le_of_eq hk.symm) (by have := SS.out.2.size; omega)); clear hb5 hc5))
  refine bodyPost_ret (results_blk3 (by rfl) _ _ H (by rfl) #[.string ⟨#[]⟩, .string ⟨#[]⟩] 23 _ B5.out Tryz.underlying23 rfl (by kernel_rfl)) rfl ⟨?_, L5.out⟩
  rfl
set_option maxHeartbeats 8000000 in
theorem pathParse_u4 (s : ByteArray) (hs : s.size ≤ 100000) (t : ByteArray) (h1 : Lib.hasPrefix s.data.toList [60] = true) (ht : (⟨(Lib.trimPrefix s.data.toList [60]).toArray⟩ : ByteArray) = t) (h2 : Lib.hasPrefix t.data.toList [62] = false) (hts : t.size ≤ 100000) (h3 : Lib.hasPrefix t.data.toList [34] = true) (lo rest : ByteArray) (hrs : rest.size ≤ 100000) (q1 : (⟨(Pt.quo t.data.toList).1.toArray⟩ : ByteArray) = lo) (q2 : (⟨(Pt.quo t.data.toList).2.1.toArray⟩ : ByteArray) = rest) (q3 : (Pt.quo t.data.toList).2.2 = true) (q4 : lo.toList.isEmpty = false) (a b : ByteArray) (c1 : (⟨(Lib.cut rest.data.toList [62]).1.toArray⟩ : ByteArray) = a) (c2 : (⟨(Lib.cut rest.data.toList [62]).2.1.toArray⟩ : ByteArray) = b) (c3 : (Lib.cut rest.data.toList [62]).2.2 = true) (a2 : ByteArray) (g1 : (⟨(Lib.trimPrefix a.data.toList [64]).toArray⟩ : ByteArray) = a2) (g2 : Lib.hasPrefix a.data.toList [64] = true) (has2 : a2.size ≤ 100000) (d : ByteArray) (g3 : (⟨(Pt.domain a2.data.toList).1.toArray⟩ : ByteArray) = d) (g4 : (Pt.domain a2.data.toList).2 = 3) (g5 : Pt.shaped a2.data.toList = false) (w : World) (hl : Lv w) : Calls Tryz.prog 12 #[.string s] w fun e w' => e = .returned (.tuple #[.agg #[.string ⟨#[]⟩, .string ⟨#[]⟩], .string ⟨#[]⟩, .int .i64 2]) ∧ Below w.heap.size w w' := by
  have cp1 := fun W => Tryz.strings_CutPrefix s ⟨#[60]⟩ W
  change ∀ W, Calls _ _ _ W (fun e w' => e = .returned (.tuple #[.string ⟨(Lib.trimPrefix s.data.toList [60]).toArray⟩, .bool (Lib.hasPrefix s.data.toList [60])]) ∧ _) at cp1
  rw [h1, ht] at cp1
  have cp2 := fun W => Tryz.strings_CutPrefix t ⟨#[62]⟩ W
  change ∀ W, Calls _ _ _ W (fun e w' => e = .returned (.tuple #[.string ⟨(Lib.trimPrefix t.data.toList [62]).toArray⟩, .bool (Lib.hasPrefix t.data.toList [62])]) ∧ _) at cp2
  rw [h2] at cp2
  have hp := fun W => Tryz.strings_HasPrefix t ⟨#[34]⟩ W
  change ∀ W, Calls _ _ _ W (fun e w' => e = .returned (.bool (Lib.hasPrefix t.data.toList [34])) ∧ _) at hp
  rw [h3] at hp
  have hqu := fun W => quoted_any t (by have := pre_pos h3; omega) (by omega) W
  rw [q1, q2, q3] at hqu
  have hcu := fun W (hW : Lv W) => cut_any rest ⟨#[62]⟩ W hW (by omega)
  change ∀ W, Lv W → Calls _ _ _ W (fun e w' => e = .returned (.tuple #[.string ⟨(Lib.cut rest.data.toList [62]).1.toArray⟩, .string ⟨(Lib.cut rest.data.toList [62]).2.1.toArray⟩, .bool (Lib.cut rest.data.toList [62]).2.2]) ∧ _) at hcu
  rw [c1, c2, c3] at hcu
  have cp4 := fun W => Tryz.strings_CutPrefix a ⟨#[64]⟩ W
  change ∀ W, Calls _ _ _ W (fun e w' => e = .returned (.tuple #[.string ⟨(Lib.trimPrefix a.data.toList [64]).toArray⟩, .bool (Lib.hasPrefix a.data.toList [64])]) ∧ _) at cp4
  rw [g1, g2] at cp4
  have hdm := fun W => domain_any a2 W
  rw [g3, g4] at hdm
  have hsh := fun W => shaped_any a2 (by omega) W
  rw [g5] at hsh
  clear h1 h2 h3 ht hts q1 q2 q3 hrs c1 c2 c3 g1 g2 g3 g4 g5 has2
  have hno := fun W => none_any W
  obtain ⟨H, hH⟩ : ∃ H, w.heap.size = H := ⟨_, rfl⟩
  have HLv : Aside (∀ W, Below H w W → Lv W) := ⟨fun W h => hl.next (hH ▸ h)⟩
  have SS : Aside (Blk (w.alloc (.cells #[.string ⟨#[]⟩, .string ⟨#[]⟩] 23)) H #[.string ⟨#[]⟩, .string ⟨#[]⟩] 23 ∧ Below H w (w.alloc (.cells #[.string ⟨#[]⟩, .string ⟨#[]⟩] 23))) := ⟨hH ▸ Blk.new (w := w) #[.string ⟨#[]⟩, .string ⟨#[]⟩] 23, (Below.refl _ w).alloc (by omega) _⟩
  clear hl
  rw [hH]
  go_enter Tryz.func12, Tryz.ntmps12
  go_wp2_with (first | (go_at_call 31; (first | (with_reducible refine (cp1 _).mono ?_) | (with_reducible refine (cp2 _).mono ?_) | (with_reducible refine (cp4 _).mono ?_)); rintro e w_ ⟨rfl, hw_⟩; have hw2_ := hw_.symm; subst hw2_; clear hw_) | (go_at_call 32; (with_reducible refine (hp _).mono ?_); rintro e w_ ⟨rfl, hw_⟩; have hw2_ := hw_.symm; subst hw2_; clear hw_) | (go_at_call 33; (with_reducible refine (hqu _).mono ?_); rintro e W_ ⟨rfl, hb_⟩; replace SS := Aside.mk (show Blk _ H _ _ ∧ Below H _ _ from ⟨SS.out.1.below hb_, SS.out.2.trans (hb_.mono (by have := SS.out.2.size; omega))⟩); clear hb_) | (go_at_call 24; (with_reducible refine (hcu _ (HLv.out _ SS.out.2)).mono ?_); rintro e W_ ⟨rfl, hb_⟩; replace SS := Aside.mk (show Blk _ H _ _ ∧ Below H _ _ from ⟨SS.out.1.below hb_, SS.out.2.trans (hb_.mono (by have := SS.out.2.size; omega))⟩); clear hb_) | (go_at_call 37; (with_reducible refine (hdm _).mono ?_); rintro e W_ ⟨rfl, hb_⟩; replace SS := Aside.mk (show Blk _ H _ _ ∧ Below H _ _ from ⟨SS.out.1.below hb_, SS.out.2.trans (hb_.mono (by have := SS.out.2.size; omega))⟩); clear hb_) | (go_at_call 38; (with_reducible refine (hsh _).mono ?_); rintro e W_ ⟨rfl, hb_⟩; replace SS := Aside.mk (show Blk _ H _ _ ∧ Below H _ _ from ⟨SS.out.1.below hb_, SS.out.2.trans (hb_.mono (by have := SS.out.2.size; omega))⟩); clear hb_) | (go_at_call 30; (with_reducible refine (hno _).mono ?_); rintro e W_ ⟨rfl, hb_⟩; replace SS := Aside.mk (show Blk _ H _ _ ∧ Below H _ _ from ⟨SS.out.1.below hb_, SS.out.2.trans (hb_.mono (by have := SS.out.2.size; omega))⟩); clear hb_) | ((with_reducible refine at_store (p := 2) rfl ?_); refine store_blk rfl 23 _ _ (by rfl) H (by rfl) #[.string ⟨#[]⟩, .string ⟨#[]⟩] #[.string ⟨#[]⟩, .string ⟨#[]⟩] 23 SS.out.1 (by rfl) (by rfl) (by kernel_rfl) (by simp [Value.oneCell']) ?_; intro w5 hb5 hc5; have B5 := Aside.mk hb5; have L5 := Aside.mk (show Below H w w5 from hc5.below SS.out.2 (fun k hk => Nat.le_of_eq hk.symm) (by have := SS.out.2.size; omega)); clear hb5 hc5))
  refine bodyPost_ret (results_blk3 (by rfl) _ _ H (by rfl) #[.string ⟨#[]⟩, .string ⟨#[]⟩] 23 _ B5.out Tryz.underlying23 rfl (by kernel_rfl)) rfl ⟨?_, L5.out⟩
  rfl
set_option maxHeartbeats 8000000 in
theorem pathParse_u5 (s : ByteArray) (hs : s.size ≤ 100000) (t : ByteArray) (h1 : Lib.hasPrefix s.data.toList [60] = true) (ht : (⟨(Lib.trimPrefix s.data.toList [60]).toArray⟩ : ByteArray) = t) (h2 : Lib.hasPrefix t.data.toList [62] = false) (hts : t.size ≤ 100000) (h3 : Lib.hasPrefix t.data.toList [34] = true) (lo rest : ByteArray) (hrs : rest.size ≤ 100000) (q1 : (⟨(Pt.quo t.data.toList).1.toArray⟩ : ByteArray) = lo) (q2 : (⟨(Pt.quo t.data.toList).2.1.toArray⟩ : ByteArray) = rest) (q3 : (Pt.quo t.data.toList).2.2 = true) (q4 : lo.toList.isEmpty = false) (a b : ByteArray) (c1 : (⟨(Lib.cut rest.data.toList [62]).1.toArray⟩ : ByteArray) = a) (c2 : (⟨(Lib.cut rest.data.toList [62]).2.1.toArray⟩ : ByteArray) = b) (c3 : (Lib.cut rest.data.toList [62]).2.2 = true) (a2 : ByteArray) (g1 : (⟨(Lib.trimPrefix a.data.toList [64]).toArray⟩ : ByteArray) = a2) (g2 : Lib.hasPrefix a.data.toList [64] = true) (has2 : a2.size ≤ 100000) (d : ByteArray) (ee : Int) (g3 : (⟨(Pt.domain a2.data.toList).1.toArray⟩ : ByteArray) = d) (g4 : (Pt.domain a2.data.toList).2 = ee) (g5 : (ee == 3) = false) (g6 : (ee == 0) = false) (g7 : (ee != 0) = true) (w : World) (hl : Lv w) : Calls Tryz.prog 12 #[.string s] w fun e w' => e = .returned (.tuple #[.agg #[.string ⟨#[]⟩, .string ⟨#[]⟩], .string ⟨#[]⟩, .int .i64 2]) ∧ Below w.heap.size w w' := by
  have cp1 := fun W => Tryz.strings_CutPrefix s ⟨#[60]⟩ W
  change ∀ W, Calls _ _ _ W (fun e w' => e = .returned (.tuple #[.string ⟨(Lib.trimPrefix s.data.toList [60]).toArray⟩, .bool (Lib.hasPrefix s.data.toList [60])]) ∧ _) at cp1
  rw [h1, ht] at cp1
  have cp2 := fun W => Tryz.strings_CutPrefix t ⟨#[62]⟩ W
  change ∀ W, Calls _ _ _ W (fun e w' => e = .returned (.tuple #[.string ⟨(Lib.trimPrefix t.data.toList [62]).toArray⟩, .bool (Lib.hasPrefix t.data.toList [62])]) ∧ _) at cp2
  rw [h2] at cp2
  have hp := fun W => Tryz.strings_HasPrefix t ⟨#[34]⟩ W
  change ∀ W, Calls _ _ _ W (fun e w' => e = .returned (.bool (Lib.hasPrefix t.data.toList [34])) ∧ _) at hp
  rw [h3] at hp
  have hqu := fun W => quoted_any t (by have := pre_pos h3; omega) (by omega) W
  rw [q1, q2, q3] at hqu
  have hcu := fun W (hW : Lv W) => cut_any rest ⟨#[62]⟩ W hW (by omega)
  change ∀ W, Lv W → Calls _ _ _ W (fun e w' => e = .returned (.tuple #[.string ⟨(Lib.cut rest.data.toList [62]).1.toArray⟩, .string ⟨(Lib.cut rest.data.toList [62]).2.1.toArray⟩, .bool (Lib.cut rest.data.toList [62]).2.2]) ∧ _) at hcu
  rw [c1, c2, c3] at hcu
  have cp4 := fun W => Tryz.strings_CutPrefix a ⟨#[64]⟩ W
  change ∀ W, Calls _ _ _ W (fun e w' => e = .returned (.tuple #[.string ⟨(Lib.trimPrefix a.data.toList [64]).toArray⟩, .bool (Lib.hasPrefix a.data.toList [64])]) ∧ _) at cp4
  rw [g1, g2] at cp4
  have hdm := fun W => domain_any a2 W
  rw [g3, g4] at hdm
  clear h1 h2 h3 ht hts q1 q2 q3 hrs c1 c2 c3 g1 g2 g3 g4 has2
  have hno := fun W => none_any W
  obtain ⟨H, hH⟩ : ∃ H, w.heap.size = H := ⟨_, rfl⟩
  have HLv : Aside (∀ W, Below H w W → Lv W) := ⟨fun W h => hl.next (hH ▸ h)⟩
  have SS : Aside (Blk (w.alloc (.cells #[.string ⟨#[]⟩, .string ⟨#[]⟩] 23)) H #[.string ⟨#[]⟩, .string ⟨#[]⟩] 23 ∧ Below H w (w.alloc (.cells #[.string ⟨#[]⟩, .string ⟨#[]⟩] 23))) := ⟨hH ▸ Blk.new (w := w) #[.string ⟨#[]⟩, .string ⟨#[]⟩] 23, (Below.refl _ w).alloc (by omega) _⟩
  clear hl
  rw [hH]
  go_enter Tryz.func12, Tryz.ntmps12
  go_wp2_with (first | (go_at_call 31; (first | (with_reducible refine (cp1 _).mono ?_) | (with_reducible refine (cp2 _).mono ?_) | (with_reducible refine (cp4 _).mono ?_)); rintro e w_ ⟨rfl, hw_⟩; have hw2_ := hw_.symm; subst hw2_; clear hw_) | (go_at_call 32; (with_reducible refine (hp _).mono ?_); rintro e w_ ⟨rfl, hw_⟩; have hw2_ := hw_.symm; subst hw2_; clear hw_) | (go_at_call 33; (with_reducible refine (hqu _).mono ?_); rintro e W_ ⟨rfl, hb_⟩; replace SS := Aside.mk (show Blk _ H _ _ ∧ Below H _ _ from ⟨SS.out.1.below hb_, SS.out.2.trans (hb_.mono (by have := SS.out.2.size; omega))⟩); clear hb_) | (go_at_call 24; (with_reducible refine (hcu _ (HLv.out _ SS.out.2)).mono ?_); rintro e W_ ⟨rfl, hb_⟩; replace SS := Aside.mk (show Blk _ H _ _ ∧ Below H _ _ from ⟨SS.out.1.below hb_, SS.out.2.trans (hb_.mono (by have := SS.out.2.size; omega))⟩); clear hb_) | (go_at_call 37; (with_reducible refine (hdm _).mono ?_); rintro e W_ ⟨rfl, hb_⟩; replace SS := Aside.mk (show Blk _ H _ _ ∧ Below H _ _ from ⟨SS.out.1.below hb_, SS.out.2.trans (hb_.mono (by have := SS.out.2.size; omega))⟩); clear hb_) | (go_at_call 30; (with_reducible refine (hno _).mono ?_); rintro e W_ ⟨rfl, hb_⟩; replace SS := Aside.mk (show Blk _ H _ _ ∧ Below H _ _ from ⟨SS.out.1.below hb_, SS.out.2.trans (hb_.mono (by have := SS.out.2.size; omega))⟩); clear hb_) | ((with_reducible refine at_store (p := 2) rfl ?_); refine store_blk rfl 23 _ _ (by rfl) H (by rfl) #[.string ⟨#[]⟩, .string ⟨#[]⟩] #[.string ⟨#[]⟩, .string ⟨#[]⟩] 23 SS.out.1 (by rfl) (by rfl) (by kernel_rfl) (by simp [Value.oneCell']) ?_; intro w5 hb5 hc5; have B5 := Aside.mk hb5; have L5 := Aside.mk (show Below H w w5 from hc5.below SS.out.2 (fun k hk => Nat.le_of_eq hk.symm) (by have := SS.out.2.size; omega)); clear hb5 hc5))
  refine bodyPost_ret (results_blk3 (by rfl) _ _ H (by rfl) #[.string ⟨#[]⟩, .string ⟨#[]⟩] 23 _ B5.out Tryz.underlying23 rfl (by kernel_rfl)) rfl ⟨?_, L5.out⟩
  rfl
set_option maxHeartbeats 8000000 in
theorem pathParse_u6 (s : ByteArray) (hs : s.size ≤ 100000) (t : ByteArray) (h1 : Lib.hasPrefix s.data.toList [60] = true) (ht : (⟨(Lib.trimPrefix s.data.toList [60]).toArray⟩ : ByteArray) = t) (h2 : Lib.hasPrefix t.data.toList [62] = false) (hts : t.size ≤ 100000) (h3 : Lib.hasPrefix t.data.toList [34] = true) (lo rest : ByteArray) (hrs : rest.size ≤ 100000) (q1 : (⟨(Pt.quo t.data.toList).1.toArray⟩ : ByteArray) = lo) (q2 : (⟨(Pt.quo t.data.toList).2.1.toArray⟩ : ByteArray) = rest) (q3 : (Pt.quo t.data.toList).2.2 = true) (q4 : lo.toList.isEmpty = false) (a b : ByteArray) (c1 : (⟨(Lib.cut rest.data.toList [62]).1.toArray⟩ : ByteArray) = a) (c2 : (⟨(Lib.cut rest.data.toList [62]).2.1.toArray⟩ : ByteArray) = b) (c3 : (Lib.cut rest.data.toList [62]).2.2 = true) (a2 : ByteArray) (g1 : (⟨(Lib.trimPrefix a.data.toList [64]).toArray⟩ : ByteArray) = a2) (g2 : Lib.hasPrefix a.data.toList [64] = true) (has2 : a2.size ≤ 100000) (d : ByteArray) (g3 : (⟨(Pt.domain a2.data.toList).1.toArray⟩ : ByteArray) = d) (g4 : (Pt.domain a2.data.toList).2 = 0) (g5 : decide ((64 : Int) < (lo.size : Int)) = true) (w : World) (hl : Lv w) : Calls Tryz.prog 12 #[.string s] w fun e w' => e = .returned (.tuple #[.agg #[.string ⟨#[]⟩, .string ⟨#[]⟩], .string ⟨#[]⟩, .int .i64 3]) ∧ Below w.heap.size w w' := by
  have cp1 := fun W => Tryz.strings_CutPrefix s ⟨#[60]⟩ W
  change ∀ W, Calls _ _ _ W (fun e w' => e = .returned (.tuple #[.string ⟨(Lib.trimPrefix s.data.toList [60]).toArray⟩, .bool (Lib.hasPrefix s.data.toList [60])]) ∧ _) at cp1
  rw [h1, ht] at cp1
  have cp2 := fun W => Tryz.strings_CutPrefix t ⟨#[62]⟩ W
  change ∀ W, Calls _ _ _ W (fun e w' => e = .returned (.tuple #[.string ⟨(Lib.trimPrefix t.data.toList [62]).toArray⟩, .bool (Lib.hasPrefix t.data.toList [62])]) ∧ _) at cp2
  rw [h2] at cp2
  have hp := fun W => Tryz.strings_HasPrefix t ⟨#[34]⟩ W
  change ∀ W, Calls _ _ _ W (fun e w' => e = .returned (.bool (Lib.hasPrefix t.data.toList [34])) ∧ _) at hp
  rw [h3] at hp
  have hqu := fun W => quoted_any t (by have := pre_pos h3; omega) (by omega) W
  rw [q1, q2, q3] at hqu
  have hcu := fun W (hW : Lv W) => cut_any rest ⟨#[62]⟩ W hW (by omega)
  change ∀ W, Lv W → Calls _ _ _ W (fun e w' => e = .returned (.tuple #[.string ⟨(Lib.cut rest.data.toList [62]).1.toArray⟩, .string ⟨(Lib.cut rest.data.toList [62]).2.1.toArray⟩, .bool (Lib.cut rest.data.toList [62]).2.2]) ∧ _) at hcu
  rw [c1, c2, c3] at hcu
  have cp4 := fun W => Tryz.strings_CutPrefix a ⟨#[64]⟩ W
  change ∀ W, Calls _ _ _ W (fun e w' => e = .returned (.tuple #[.string ⟨(Lib.trimPrefix a.data.toList [64]).toArray⟩, .bool (Lib.hasPrefix a.data.toList [64])]) ∧ _) at cp4
  rw [g1, g2] at cp4
  have hdm := fun W => domain_any a2 W
  rw [g3, g4] at hdm
  clear h1 h2 h3 ht hts q1 q2 q3 hrs c1 c2 c3 g1 g2 g3 g4 has2
  have hno := fun W => none_any W
  obtain ⟨H, hH⟩ : ∃ H, w.heap.size = H := ⟨_, rfl⟩
  have HLv : Aside (∀ W, Below H w W → Lv W) := ⟨fun W h => hl.next (hH ▸ h)⟩
  have SS : Aside (Blk (w.alloc (.cells #[.string ⟨#[]⟩, .string ⟨#[]⟩] 23)) H #[.string ⟨#[]⟩, .string ⟨#[]⟩] 23 ∧ Below H w (w.alloc (.cells #[.string ⟨#[]⟩, .string ⟨#[]⟩] 23))) := ⟨hH ▸ Blk.new (w := w) #[.string ⟨#[]⟩, .string ⟨#[]⟩] 23, (Below.refl _ w).alloc (by omega) _⟩
  clear hl
  rw [hH]
  go_enter Tryz.func12, Tryz.ntmps12
  go_wp2_with (first | (go_at_call 31; (first | (with_reducible refine (cp1 _).mono ?_) | (with_reducible refine (cp2 _).mono ?_) | (with_reducible refine (cp4 _).mono ?_)); rintro e w_ ⟨rfl, hw_⟩; have hw2_ := hw_.symm; subst hw2_; clear hw_) | (go_at_call 32; (with_reducible refine (hp _).mono ?_); rintro e w_ ⟨rfl, hw_⟩; have hw2_ := hw_.symm; subst hw2_; clear hw_) | (go_at_call 33; (with_reducible refine (hqu _).mono ?_); rintro e W_ ⟨rfl, hb_⟩; replace SS := Aside.mk (show Blk _ H _ _ ∧ Below H _ _ from ⟨SS.out.1.below hb_, SS.out.2.trans (hb_.mono (by have := SS.out.2.size; omega))⟩); clear hb_) | (go_at_call 24; (with_reducible refine (hcu _ (HLv.out _ SS.out.2)).mono ?_); rintro e W_ ⟨rfl, hb_⟩; replace SS := Aside.mk (show Blk _ H _ _ ∧ Below H _ _ from ⟨SS.out.1.below hb_, SS.out.2.trans (hb_.mono (by have := SS.out.2.size; omega))⟩); clear hb_) | (go_at_call 37; (with_reducible refine (hdm _).mono ?_); rintro e W_ ⟨rfl, hb_⟩; replace SS := Aside.mk (show Blk _ H _ _ ∧ Below H _ _ from ⟨SS.out.1.below hb_, SS.out.2.trans (hb_.mono (by have := SS.out.2.size; omega))⟩); clear hb_) | (go_at_call 30; (with_reducible refine (hno _).mono ?_); rintro e W_ ⟨rfl, hb_⟩; replace SS := Aside.mk (show Blk _ H _ _ ∧ Below H _ _ from ⟨SS.out.1.below hb_, SS.out.2.trans (hb_.mono (by have := SS.out.2.size; omega))⟩); clear hb_) | ((with_reducible refine at_store (p := 2) rfl ?_); refine store_blk rfl 23 _ _ (by rfl) H (by rfl) #[.string ⟨#[]⟩, .string ⟨#[]⟩] #[.string ⟨#[]⟩, .string ⟨#[]⟩] 23 SS.out.1 (by rfl) (by rfl) (by kernel_rfl) (by simp [Value.oneCell']) ?_; intro w5 hb5 hc5; have B5 := Aside.mk hb5; have L5 := Aside.mk (show Below H w w5 from hc5.below SS.out.2 (fun k hk => Nat.le_of_eq hk.symm) (by have := SS.out.2.size; omega)); clear hb5 hc5))
  refine bodyPost_ret (results_blk3 (by rfl) _ _ H (by rfl) #[.string ⟨#[]⟩, .string ⟨#[]⟩] 23 _ B5.out Tryz.underlying23 rfl (by kernel_rfl)) rfl ⟨?_, L5.out⟩
  rfl
set_option maxHeartbeats 8000000 in
theorem pathParse_u7 (s : ByteArray) (hs : s.size ≤ 100000) (t : ByteArray) (h1 : Lib.hasPrefix s.data.toList [60] = true) (ht : (⟨(Lib.trimPrefix s.data.toList [60]).toArray⟩ : ByteArray) = t) (h2 : Lib.hasPrefix t.data.toList [62] = false) (hts : t.size ≤ 100000) (h3 : Lib.hasPrefix t.data.toList [34] = true) (lo rest : ByteArray) (hrs : rest.size ≤ 100000) (q1 : (⟨(Pt.quo t.data.toList).1.toArray⟩ : ByteArray) = lo) (q2 : (⟨(Pt.quo t.data.toList).2.1.toArray⟩ : ByteArray) = rest) (q3 : (Pt.quo t.data.toList).2.2 = true) (q4 : lo.toList.isEmpty = false) (a b : ByteArray) (c1 : (⟨(Lib.cut rest.data.toList [62]).1.toArray⟩ : ByteArray) = a) (c2 : (⟨(Lib.cut rest.data.toList [62]).2.1.toArray⟩ : ByteArray) = b) (c3 : (Lib.cut rest.data.toList [62]).2.2 = true) (a2 : ByteArray) (g1 : (⟨(Lib.trimPrefix a.data.toList [64]).toArray⟩ : ByteArray) = a2) (g2 : Lib.hasPrefix a.data.toList [64] = true) (has2 : a2.size ≤ 100000) (d : ByteArray) (g3 : (⟨(Pt.domain a2.data.toList).1.toArray⟩ : ByteArray) = d) (g4 : (Pt.domain a2.data.toList).2 = 0) (g5 : decide ((64 : Int) < (lo.size : Int)) = false) (w : World) (hl : Lv w) : Calls Tryz.prog 12 #[.string s] w fun e w' => e = .returned (.tuple #[.agg #[.string lo, .string d], .string b, .int .i64 0]) ∧ Below w.heap.size w w' := by
  have cp1 := fun W => Tryz.strings_CutPrefix s ⟨#[60]⟩ W
  change ∀ W, Calls _ _ _ W (fun e w' => e = .returned (.tuple #[.string ⟨(Lib.trimPrefix s.data.toList [60]).toArray⟩, .bool (Lib.hasPrefix s.data.toList [60])]) ∧ _) at cp1
  rw [h1, ht] at cp1
  have cp2 := fun W => Tryz.strings_CutPrefix t ⟨#[62]⟩ W
  change ∀ W, Calls _ _ _ W (fun e w' => e = .returned (.tuple #[.string ⟨(Lib.trimPrefix t.data.toList [62]).toArray⟩, .bool (Lib.hasPrefix t.data.toList [62])]) ∧ _) at cp2
  rw [h2] at cp2
  have hp := fun W => Tryz.strings_HasPrefix t ⟨#[34]⟩ W
  change ∀ W, Calls _ _ _ W (fun e w' => e = .returned (.bool (Lib.hasPrefix t.data.toList [34])) ∧ _) at hp
  rw [h3] at hp
  have hqu := fun W => quoted_any t (by have := pre_pos h3; omega) (by omega) W
  rw [q1, q2, q3] at hqu
  have hcu := fun W (hW : Lv W) => cut_any rest ⟨#[62]⟩ W hW (by omega)
  change ∀ W, Lv W → Calls _ _ _ W (fun e w' => e = .returned (.tuple #[.string ⟨(Lib.cut rest.data.toList [62]).1.toArray⟩, .string ⟨(Lib.cut rest.data.toList [62]).2.1.toArray⟩, .bool (Lib.cut rest.data.toList [62]).2.2]) ∧ _) at hcu
  rw [c1, c2, c3] at hcu
  have cp4 := fun W => Tryz.strings_CutPrefix a ⟨#[64]⟩ W
  change ∀ W, Calls _ _ _ W (fun e w' => e = .returned (.tuple #[.string ⟨(Lib.trimPrefix a.data.toList [64]).toArray⟩, .bool (Lib.hasPrefix a.data.toList [64])]) ∧ _) at cp4
  rw [g1, g2] at cp4
  have hdm := fun W => domain_any a2 W
  rw [g3, g4] at hdm
  clear h1 h2 h3 ht hts q1 q2 q3 hrs c1 c2 c3 g1 g2 g3 g4 has2
  have hno := fun W => none_any W
  obtain ⟨H, hH⟩ : ∃ H, w.heap.size = H := ⟨_, rfl⟩
  have HLv : Aside (∀ W, Below H w W → Lv W) := ⟨fun W h => hl.next (hH ▸ h)⟩
  have SS : Aside (Blk (w.alloc (.cells #[.string ⟨#[]⟩, .string ⟨#[]⟩] 23)) H #[.string ⟨#[]⟩, .string ⟨#[]⟩] 23 ∧ Below H w (w.alloc (.cells #[.string ⟨#[]⟩, .string ⟨#[]⟩] 23))) := ⟨hH ▸ Blk.new (w := w) #[.string ⟨#[]⟩, .string ⟨#[]⟩] 23, (Below.refl _ w).alloc (by omega) _⟩
  clear hl
  rw [hH]
  go_enter Tryz.func12, Tryz.ntmps12
  go_wp2_with (first | (go_at_call 31; (first | (with_reducible refine (cp1 _).mono ?_) | (with_reducible refine (cp2 _).mono ?_) | (with_reducible refine (cp4 _).mono ?_)); rintro e w_ ⟨rfl, hw_⟩; have hw2_ := hw_.symm; subst hw2_; clear hw_) | (go_at_call 32; (with_reducible refine (hp _).mono ?_); rintro e w_ ⟨rfl, hw_⟩; have hw2_ := hw_.symm; subst hw2_; clear hw_) | (go_at_call 33; (with_reducible refine (hqu _).mono ?_); rintro e W_ ⟨rfl, hb_⟩; replace SS := Aside.mk (show Blk _ H _ _ ∧ Below H _ _ from ⟨SS.out.1.below hb_, SS.out.2.trans (hb_.mono (by have := SS.out.2.size; omega))⟩); clear hb_) | (go_at_call 24; (with_reducible refine (hcu _ (HLv.out _ SS.out.2)).mono ?_); rintro e W_ ⟨rfl, hb_⟩; replace SS := Aside.mk (show Blk _ H _ _ ∧ Below H _ _ from ⟨SS.out.1.below hb_, SS.out.2.trans (hb_.mono (by have := SS.out.2.size; omega))⟩); clear hb_) | (go_at_call 37; (with_reducible refine (hdm _).mono ?_); rintro e W_ ⟨rfl, hb_⟩; replace SS := Aside.mk (show Blk _ H _ _ ∧ Below H _ _ from ⟨SS.out.1.below hb_, SS.out.2.trans (hb_.mono (by have := SS.out.2.size; omega))⟩); clear hb_) | (go_at_call 30; (with_reducible refine (hno _).mono ?_); rintro e W_ ⟨rfl, hb_⟩; replace SS := Aside.mk (show Blk _ H _ _ ∧ Below H _ _ from ⟨SS.out.1.below hb_, SS.out.2.trans (hb_.mono (by have := SS.out.2.size; omega))⟩); clear hb_) | ((with_reducible refine at_store (p := 2) rfl ?_); refine store_blk rfl 23 _ _ (by rfl) H (by rfl) #[.string ⟨#[]⟩, .string ⟨#[]⟩] #[.string lo, .string d] 23 SS.out.1 (by rfl) (by rfl) (by kernel_rfl) (by simp [Value.oneCell']) ?_; intro w5 hb5 hc5; have B5 := Aside.mk hb5; have L5 := Aside.mk (show Below H w w5 from hc5.below SS.out.2 (fun k hk => Nat.le_of_eq hk.symm) (by have := SS.out.2.size; omega)); clear hb5 hc5))
  refine bodyPost_ret (results_blk3 (by rfl) _ _ H (by rfl) #[.string lo, .string d] 23 _ B5.out Tryz.underlying23 rfl (by kernel_rfl)) rfl ⟨?_, L5.out⟩
  rfl
end Go.Proofs.YtllhbcpbihhdnaaGreatDoor
