/-
  Where mail goes: Parse: the ways of a text that has no quote.
-/
import Derived.Test.YtllhbcpbihhdnaaGreatDoorQ2
set_option linter.unusedVariables false
set_option linter.unusedSimpArgs false
namespace Go.Proofs.YtllhbcpbihhdnaaGreatDoor
open Go.RowKit Go.Shelf
set_option maxRecDepth 100000
set_option maxHeartbeats 8000000 in
theorem pathParse_a (s : ByteArray) (hs : s.size ≤ 100000) (h1 : Lib.hasPrefix s.data.toList [60] = false) (w : World) (hl : Lv w) : Calls Tryz.prog 12 #[.string s] w fun e w' => e = .returned (.tuple #[.agg #[.string ⟨#[]⟩, .string ⟨#[]⟩], .string ⟨#[]⟩, .int .i64 2]) ∧ Below w.heap.size w w' := by
  have cp1 := fun W => Tryz.strings_CutPrefix s ⟨#[60]⟩ W
  change ∀ W, Calls _ _ _ W (fun e w' => e = .returned (.tuple #[.string ⟨(Lib.trimPrefix s.data.toList [60]).toArray⟩, .bool (Lib.hasPrefix s.data.toList [60])]) ∧ _) at cp1
  rw [h1] at cp1
  clear h1
  have hno := fun W => none_any W
  obtain ⟨H, hH⟩ : ∃ H, w.heap.size = H := ⟨_, rfl⟩
  have HLv : Aside (∀ W, Below H w W → Lv W) := ⟨fun W h => hl.next (hH ▸ h)⟩
  have SS : Aside (Blk (w.alloc (.cells #[.string ⟨#[]⟩, .string ⟨#[]⟩] 23)) H #[.string ⟨#[]⟩, .string ⟨#[]⟩] 23 ∧ Below H w (w.alloc (.cells #[.string ⟨#[]⟩, .string ⟨#[]⟩] 23))) := ⟨hH ▸ Blk.new (w := w) #[.string ⟨#[]⟩, .string ⟨#[]⟩] 23, (Below.refl _ w).alloc (by omega) _⟩
  clear hl
  rw [hH]
  go_enter Tryz.func12, Tryz.ntmps12
  go_wp2_with (first | (go_at_call 31; (with_reducible refine (cp1 _).mono ?_); rintro e w_ ⟨rfl, hw_⟩; have hw2_ := hw_.symm; subst hw2_; clear hw_) | (go_at_call 30; (with_reducible refine (hno _).mono ?_); rintro e W_ ⟨rfl, hb_⟩; replace SS := Aside.mk (show Blk _ H _ _ ∧ Below H _ _ from ⟨SS.out.1.below hb_, SS.out.2.trans (hb_.mono (by have := SS.out.2.size; omega))⟩); clear hb_) | ((with_reducible refine at_store (p := 2) rfl ?_); refine store_blk rfl 23 _ _ (by rfl) H (by rfl) #[.string ⟨#[]⟩, .string ⟨#[]⟩] #[.string ⟨#[]⟩, .string ⟨#[]⟩] 23 SS.out.1 (by rfl) (by rfl) (by kernel_rfl) (by simp [Value.oneCell']) ?_; intro w5 hb5 hc5; have B5 := Aside.mk hb5; have L5 := Aside.mk (show Below H w w5 from hc5.below SS.out.2 (fun k hk => Nat.le_of_eq hk.symm) (by have := SS.out.2.size; omega)); clear hb5 hc5))
  refine bodyPost_ret (results_blk3 (by rfl) _ _ H (by rfl) #[.string ⟨#[]⟩, .string ⟨#[]⟩] 23 _ B5.out Tryz.underlying23 rfl (by kernel_rfl)) rfl ⟨?_, L5.out⟩
  rfl
set_option maxHeartbeats 8000000 in
theorem pathParse_b (s : ByteArray) (hs : s.size ≤ 100000) (t : ByteArray) (h1 : Lib.hasPrefix s.data.toList [60] = true) (ht : (⟨(Lib.trimPrefix s.data.toList [60]).toArray⟩ : ByteArray) = t) (r : ByteArray) (h2 : Lib.hasPrefix t.data.toList [62] = true) (hr : (⟨(Lib.trimPrefix t.data.toList [62]).toArray⟩ : ByteArray) = r) (w : World) (hl : Lv w) : Calls Tryz.prog 12 #[.string s] w fun e w' => e = .returned (.tuple #[.agg #[.string ⟨#[]⟩, .string ⟨#[]⟩], .string r, .int .i64 0]) ∧ Below w.heap.size w w' := by
  have cp1 := fun W => Tryz.strings_CutPrefix s ⟨#[60]⟩ W
  change ∀ W, Calls _ _ _ W (fun e w' => e = .returned (.tuple #[.string ⟨(Lib.trimPrefix s.data.toList [60]).toArray⟩, .bool (Lib.hasPrefix s.data.toList [60])]) ∧ _) at cp1
  rw [h1, ht] at cp1
  have cp2 := fun W => Tryz.strings_CutPrefix t ⟨#[62]⟩ W
  change ∀ W, Calls _ _ _ W (fun e w' => e = .returned (.tuple #[.string ⟨(Lib.trimPrefix t.data.toList [62]).toArray⟩, .bool (Lib.hasPrefix t.data.toList [62])]) ∧ _) at cp2
  rw [h2, hr] at cp2
  clear h1 h2 ht hr
  have hno := fun W => none_any W
  obtain ⟨H, hH⟩ : ∃ H, w.heap.size = H := ⟨_, rfl⟩
  have HLv : Aside (∀ W, Below H w W → Lv W) := ⟨fun W h => hl.next (hH ▸ h)⟩
  have SS : Aside (Blk (w.alloc (.cells #[.string ⟨#[]⟩, .string ⟨#[]⟩] 23)) H #[.string ⟨#[]⟩, .string ⟨#[]⟩] 23 ∧ Below H w (w.alloc (.cells #[.string ⟨#[]⟩, .string ⟨#[]⟩] 23))) := ⟨hH ▸ Blk.new (w := w) #[.string ⟨#[]⟩, .string ⟨#[]⟩] 23, (Below.refl _ w).alloc (by omega) _⟩
  clear hl
  rw [hH]
  go_enter Tryz.func12, Tryz.ntmps12
  go_wp2_with (first | (go_at_call 31; (first | (with_reducible refine (cp1 _).mono ?_) | (with_reducible refine (cp2 _).mono ?_)); rintro e w_ ⟨rfl, hw_⟩; have hw2_ := hw_.symm; subst hw2_; clear hw_) | (go_at_call 30; (with_reducible refine (hno _).mono ?_); rintro e W_ ⟨rfl, hb_⟩; replace SS := Aside.mk (show Blk _ H _ _ ∧ Below H _ _ from ⟨SS.out.1.below hb_, SS.out.2.trans (hb_.mono (by have := SS.out.2.size; omega))⟩); clear hb_) | ((with_reducible refine at_store (p := 2) rfl ?_); refine store_blk rfl 23 _ _ (by rfl) H (by rfl) #[.string ⟨#[]⟩, .string ⟨#[]⟩] #[.string ⟨#[]⟩, .string ⟨#[]⟩] 23 SS.out.1 (by rfl) (by rfl) (by kernel_rfl) (by simp [Value.oneCell']) ?_; intro w5 hb5 hc5; have B5 := Aside.mk hb5; have L5 := Aside.mk (show Below H w w5 from hc5.below SS.out.2 (fun k hk => Nat.le_of_eq hk.symm) (by have := SS.out.2.size; omega)); clear hb5 hc5))
  refine bodyPost_ret (results_blk3 (by rfl) _ _ H (by rfl) #[.string ⟨#[]⟩, .string ⟨#[]⟩] 23 _ B5.out Tryz.underlying23 rfl (by kernel_rfl)) rfl ⟨?_, L5.out⟩
  rfl
set_option maxHeartbeats 8000000 in
theorem pathParse_p1 (s : ByteArray) (hs : s.size ≤ 100000) (t : ByteArray) (h1 : Lib.hasPrefix s.data.toList [60] = true) (ht : (⟨(Lib.trimPrefix s.data.toList [60]).toArray⟩ : ByteArray) = t) (h2 : Lib.hasPrefix t.data.toList [62] = false) (hts : t.size ≤ 100000) (h3 : Lib.hasPrefix t.data.toList [34] = false) (ix : Int) (hx : Lib.indexAny t.data.toList [64, 62] = ix) (h4 : ix < 0) (w : World) (hl : Lv w) : Calls Tryz.prog 12 #[.string s] w fun e w' => e = .returned (.tuple #[.agg #[.string ⟨#[]⟩, .string ⟨#[]⟩], .string ⟨#[]⟩, .int .i64 2]) ∧ Below w.heap.size w w' := by
  have cp1 := fun W => Tryz.strings_CutPrefix s ⟨#[60]⟩ W
  change ∀ W, Calls _ _ _ W (fun e w' => e = .returned (.tuple #[.string ⟨(Lib.trimPrefix s.data.toList [60]).toArray⟩, .bool (Lib.hasPrefix s.data.toList [60])]) ∧ _) at cp1
  rw [h1, ht] at cp1
  have cp2 := fun W => Tryz.strings_CutPrefix t ⟨#[62]⟩ W
  change ∀ W, Calls _ _ _ W (fun e w' => e = .returned (.tuple #[.string ⟨(Lib.trimPrefix t.data.toList [62]).toArray⟩, .bool (Lib.hasPrefix t.data.toList [62])]) ∧ _) at cp2
  rw [h2] at cp2
  have hp := fun W => Tryz.strings_HasPrefix t ⟨#[34]⟩ W
  change ∀ W, Calls _ _ _ W (fun e w' => e = .returned (.bool (Lib.hasPrefix t.data.toList [34])) ∧ _) at hp
  rw [h3] at hp
  have hi := fun W => idxA_any t (by omega) W
  rw [hx] at hi
  have d4 : decide (ix < 0) = true := decide_eq_true h4
  clear h1 h2 h3 ht hx h4 hts
  have hno := fun W => none_any W
  obtain ⟨H, hH⟩ : ∃ H, w.heap.size = H := ⟨_, rfl⟩
  have HLv : Aside (∀ W, Below H w W → Lv W) := ⟨fun W h => hl.next (hH ▸ h)⟩
  have SS : Aside (Blk (w.alloc (.cells #[.string ⟨#[]⟩, .string ⟨#[]⟩] 23)) H #[.string ⟨#[]⟩, .string ⟨#[]⟩] 23 ∧ Below H w (w.alloc (.cells #[.string ⟨#[]⟩, .string ⟨#[]⟩] 23))) := ⟨hH ▸ Blk.new (w := w) #[.string ⟨#[]⟩, .string ⟨#[]⟩] 23, (Below.refl _ w).alloc (by omega) _⟩
  clear hl
  rw [hH]
  go_enter Tryz.func12, Tryz.ntmps12
  go_wp2_with (first | (go_at_call 31; (first | (with_reducible refine (cp1 _).mono ?_) | (with_reducible refine (cp2 _).mono ?_)); rintro e w_ ⟨rfl, hw_⟩; have hw2_ := hw_.symm; subst hw2_; clear hw_) | (go_at_call 32; (with_reducible refine (hp _).mono ?_); rintro e w_ ⟨rfl, hw_⟩; have hw2_ := hw_.symm; subst hw2_; clear hw_) | (go_at_call 34; (with_reducible refine (hi _).mono ?_); rintro e W_ ⟨rfl, hb_⟩; replace SS := Aside.mk (show Blk _ H _ _ ∧ Below H _ _ from ⟨SS.out.1.below hb_, SS.out.2.trans (hb_.mono (by have := SS.out.2.size; omega))⟩); clear hb_) | (go_at_call 30; (with_reducible refine (hno _).mono ?_); rintro e W_ ⟨rfl, hb_⟩; replace SS := Aside.mk (show Blk _ H _ _ ∧ Below H _ _ from ⟨SS.out.1.below hb_, SS.out.2.trans (hb_.mono (by have := SS.out.2.size; omega))⟩); clear hb_) | ((with_reducible refine at_store (p := 2) rfl ?_); refine store_blk rfl 23 _ _ (by rfl) H (by rfl) #[.string ⟨#[]⟩, .string ⟨#[]⟩] #[.string ⟨#[]⟩, .string ⟨#[]⟩] 23 SS.out.1 (by rfl) (by rfl) (by kernel_rfl) (by simp [Value.oneCell']) ?_; intro w5 hb5 hc5; have B5 := Aside.mk hb5; have L5 := Aside.mk (show Below H w w5 from hc5.below SS.out.2 (fun k hk => Nat.le_of_eq hk.symm) (by have := SS.out.2.size; omega)); clear hb5 hc5))
  refine bodyPost_ret (results_blk3 (by rfl) _ _ H (by rfl) #[.string ⟨#[]⟩, .string ⟨#[]⟩] 23 _ B5.out Tryz.underlying23 rfl (by kernel_rfl)) rfl ⟨?_, L5.out⟩
  rfl
set_option maxHeartbeats 8000000 in
theorem pathParse_p2 (s : ByteArray) (hs : s.size ≤ 100000) (t : ByteArray) (h1 : Lib.hasPrefix s.data.toList [60] = true) (ht : (⟨(Lib.trimPrefix s.data.toList [60]).toArray⟩ : ByteArray) = t) (h2 : Lib.hasPrefix t.data.toList [62] = false) (hts : t.size ≤ 100000) (h3 : Lib.hasPrefix t.data.toList [34] = false) (n : Nat) (hx : Lib.indexAny t.data.toList [64, 62] = (n : Int)) (hn : n < t.size) (lo rest : ByteArray) (hlo : t.extract 0 n = lo) (hre : t.extract n t.size = rest) (h5 : Pt.atoms lo.data.toList = false) (w : World) (hl : Lv w) : Calls Tryz.prog 12 #[.string s] w fun e w' => e = .returned (.tuple #[.agg #[.string ⟨#[]⟩, .string ⟨#[]⟩], .string ⟨#[]⟩, .int .i64 2]) ∧ Below w.heap.size w w' := by
  have cp1 := fun W => Tryz.strings_CutPrefix s ⟨#[60]⟩ W
  change ∀ W, Calls _ _ _ W (fun e w' => e = .returned (.tuple #[.string ⟨(Lib.trimPrefix s.data.toList [60]).toArray⟩, .bool (Lib.hasPrefix s.data.toList [60])]) ∧ _) at cp1
  rw [h1, ht] at cp1
  have cp2 := fun W => Tryz.strings_CutPrefix t ⟨#[62]⟩ W
  change ∀ W, Calls _ _ _ W (fun e w' => e = .returned (.tuple #[.string ⟨(Lib.trimPrefix t.data.toList [62]).toArray⟩, .bool (Lib.hasPrefix t.data.toList [62])]) ∧ _) at cp2
  rw [h2] at cp2
  have hp := fun W => Tryz.strings_HasPrefix t ⟨#[34]⟩ W
  change ∀ W, Calls _ _ _ W (fun e w' => e = .returned (.bool (Lib.hasPrefix t.data.toList [34])) ∧ _) at hp
  rw [h3] at hp
  have hi := fun W => idxA_any t (by omega) W
  rw [hx] at hi
  have n0 : decide ((n : Int) < 0) = false := decide_eq_false (by omega)
  have n1 : (n : Int) ≤ (t.size : Int) := by omega
  have n2 : (0 : Int) ≤ (n : Int) := by omega
  have hls : lo.size ≤ 100000 := by rw [← hlo]; simp; omega
  have hrs : rest.size ≤ 100000 := by rw [← hre]; simp; omega
  have hat := fun W => atoms_any lo (by omega) W
  rw [h5] at hat
  clear h1 h2 h3 ht hx hts h5 hls hrs
  have hno := fun W => none_any W
  obtain ⟨H, hH⟩ : ∃ H, w.heap.size = H := ⟨_, rfl⟩
  have HLv : Aside (∀ W, Below H w W → Lv W) := ⟨fun W h => hl.next (hH ▸ h)⟩
  have SS : Aside (Blk (w.alloc (.cells #[.string ⟨#[]⟩, .string ⟨#[]⟩] 23)) H #[.string ⟨#[]⟩, .string ⟨#[]⟩] 23 ∧ Below H w (w.alloc (.cells #[.string ⟨#[]⟩, .string ⟨#[]⟩] 23))) := ⟨hH ▸ Blk.new (w := w) #[.string ⟨#[]⟩, .string ⟨#[]⟩] 23, (Below.refl _ w).alloc (by omega) _⟩
  clear hl
  rw [hH]
  go_enter Tryz.func12, Tryz.ntmps12
  go_wp2_with (first | (go_at_call 31; (first | (with_reducible refine (cp1 _).mono ?_) | (with_reducible refine (cp2 _).mono ?_)); rintro e w_ ⟨rfl, hw_⟩; have hw2_ := hw_.symm; subst hw2_; clear hw_) | (go_at_call 32; (with_reducible refine (hp _).mono ?_); rintro e w_ ⟨rfl, hw_⟩; have hw2_ := hw_.symm; subst hw2_; clear hw_) | (go_at_call 34; (with_reducible refine (hi _).mono ?_); rintro e W_ ⟨rfl, hb_⟩; replace SS := Aside.mk (show Blk _ H _ _ ∧ Below H _ _ from ⟨SS.out.1.below hb_, SS.out.2.trans (hb_.mono (by have := SS.out.2.size; omega))⟩); clear hb_) | (go_at_call 35; (with_reducible refine (hat _).mono ?_); rintro e W_ ⟨rfl, hb_⟩; replace SS := Aside.mk (show Blk _ H _ _ ∧ Below H _ _ from ⟨SS.out.1.below hb_, SS.out.2.trans (hb_.mono (by have := SS.out.2.size; omega))⟩); clear hb_) | (go_at_call 30; (with_reducible refine (hno _).mono ?_); rintro e W_ ⟨rfl, hb_⟩; replace SS := Aside.mk (show Blk _ H _ _ ∧ Below H _ _ from ⟨SS.out.1.below hb_, SS.out.2.trans (hb_.mono (by have := SS.out.2.size; omega))⟩); clear hb_) | ((with_reducible refine at_store (p := 2) rfl ?_); refine store_blk rfl 23 _ _ (by rfl) H (by rfl) #[.string ⟨#[]⟩, .string ⟨#[]⟩] #[.string ⟨#[]⟩, .string ⟨#[]⟩] 23 SS.out.1 (by rfl) (by rfl) (by kernel_rfl) (by simp [Value.oneCell']) ?_; intro w5 hb5 hc5; have B5 := Aside.mk hb5; have L5 := Aside.mk (show Below H w w5 from hc5.below SS.out.2 (fun k hk => Nat.le_of_eq hk.symm) (by have := SS.out.2.size; omega)); clear hb5 hc5))
  refine bodyPost_ret (results_blk3 (by rfl) _ _ H (by rfl) #[.string ⟨#[]⟩, .string ⟨#[]⟩] 23 _ B5.out Tryz.underlying23 rfl (by kernel_rfl)) rfl ⟨?_, L5.out⟩
  rfl
set_option maxHeartbeats 8000000 in
theorem pathParse_p3 (s : ByteArray) (hs : s.size ≤ 100000) (t : ByteArray) (h1 : Lib.hasPrefix s.data.toList [60] = true) (ht : (⟨(Lib.trimPrefix s.data.toList [60]).toArray⟩ : ByteArray) = t) (h2 : Lib.hasPrefix t.data.toList [62] = false) (hts : t.size ≤ 100000) (h3 : Lib.hasPrefix t.data.toList [34] = false) (n : Nat) (hx : Lib.indexAny t.data.toList [64, 62] = (n : Int)) (hn : n < t.size) (lo rest : ByteArray) (hlo : t.extract 0 n = lo) (hre : t.extract n t.size = rest) (h5 : Pt.atoms lo.data.toList = true) (r : ByteArray) (h6 : Lib.hasPrefix rest.data.toList [62] = true) (hr : (⟨(Lib.trimPrefix rest.data.toList [62]).toArray⟩ : ByteArray) = r) (low : ByteArray) (hlw : (⟨(Lib.toLowerA lo.data.toList).toArray⟩ : ByteArray) = low) (h7 : (low.toList != [112, 111, 115, 116, 109, 97, 115, 116, 101, 114]) = true) (h7b : (low.toList == [112, 111, 115, 116, 109, 97, 115, 116, 101, 114]) = false) (w : World) (hl : Lv w) : Calls Tryz.prog 12 #[.string s] w fun e w' => e = .returned (.tuple #[.agg #[.string ⟨#[]⟩, .string ⟨#[]⟩], .string ⟨#[]⟩, .int .i64 2]) ∧ Below w.heap.size w w' := by
  have cp1 := fun W => Tryz.strings_CutPrefix s ⟨#[60]⟩ W
  change ∀ W, Calls _ _ _ W (fun e w' => e = .returned (.tuple #[.string ⟨(Lib.trimPrefix s.data.toList [60]).toArray⟩, .bool (Lib.hasPrefix s.data.toList [60])]) ∧ _) at cp1
  rw [h1, ht] at cp1
  have cp2 := fun W => Tryz.strings_CutPrefix t ⟨#[62]⟩ W
  change ∀ W, Calls _ _ _ W (fun e w' => e = .returned (.tuple #[.string ⟨(Lib.trimPrefix t.data.toList [62]).toArray⟩, .bool (Lib.hasPrefix t.data.toList [62])]) ∧ _) at cp2
  rw [h2] at cp2
  have hp := fun W => Tryz.strings_HasPrefix t ⟨#[34]⟩ W
  change ∀ W, Calls _ _ _ W (fun e w' => e = .returned (.bool (Lib.hasPrefix t.data.toList [34])) ∧ _) at hp
  rw [h3] at hp
  have hi := fun W => idxA_any t (by omega) W
  rw [hx] at hi
  have n0 : decide ((n : Int) < 0) = false := decide_eq_false (by omega)
  have n1 : (n : Int) ≤ (t.size : Int) := by omega
  have n2 : (0 : Int) ≤ (n : Int) := by omega
  have hls : lo.size ≤ 100000 := by rw [← hlo]; simp; omega
  have hrs : rest.size ≤ 100000 := by rw [← hre]; simp; omega
  have hat := fun W => atoms_any lo (by omega) W
  rw [h5] at hat
  have cp3 := fun W => Tryz.strings_CutPrefix rest ⟨#[62]⟩ W
  change ∀ W, Calls _ _ _ W (fun e w' => e = .returned (.tuple #[.string ⟨(Lib.trimPrefix rest.data.toList [62]).toArray⟩, .bool (Lib.hasPrefix rest.data.toList [62])]) ∧ _) at cp3
  rw [h6, hr] at cp3
  have htl := fun W => Tryz.strings_ToLower_ascii lo W (by omega) (atoms_ascii lo h5)
  rw [hlw] at htl
  clear h1 h2 h3 ht hx hts h5 hls hrs h6 hr hlw
  have hno := fun W => none_any W
  obtain ⟨H, hH⟩ : ∃ H, w.heap.size = H := ⟨_, rfl⟩
  have HLv : Aside (∀ W, Below H w W → Lv W) := ⟨fun W h => hl.next (hH ▸ h)⟩
  have SS : Aside (Blk (w.alloc (.cells #[.string ⟨#[]⟩, .string ⟨#[]⟩] 23)) H #[.string ⟨#[]⟩, .string ⟨#[]⟩] 23 ∧ Below H w (w.alloc (.cells #[.string ⟨#[]⟩, .string ⟨#[]⟩] 23))) := ⟨hH ▸ Blk.new (w := w) #[.string ⟨#[]⟩, .string ⟨#[]⟩] 23, (Below.refl _ w).alloc (by omega) _⟩
  clear hl
  rw [hH]
  go_enter Tryz.func12, Tryz.ntmps12
  go_wp2_with (first | (go_at_call 31; (first | (with_reducible refine (cp1 _).mono ?_) | (with_reducible refine (cp2 _).mono ?_) | (with_reducible refine (cp3 _).mono ?_)); rintro e w_ ⟨rfl, hw_⟩; have hw2_ := hw_.symm; subst hw2_; clear hw_) | (go_at_call 32; (with_reducible refine (hp _).mono ?_); rintro e w_ ⟨rfl, hw_⟩; have hw2_ := hw_.symm; subst hw2_; clear hw_) | (go_at_call 34; (with_reducible refine (hi _).mono ?_); rintro e W_ ⟨rfl, hb_⟩; replace SS := Aside.mk (show Blk _ H _ _ ∧ Below H _ _ from ⟨SS.out.1.below hb_, SS.out.2.trans (hb_.mono (by have := SS.out.2.size; omega))⟩); clear hb_) | (go_at_call 35; (with_reducible refine (hat _).mono ?_); rintro e W_ ⟨rfl, hb_⟩; replace SS := Aside.mk (show Blk _ H _ _ ∧ Below H _ _ from ⟨SS.out.1.below hb_, SS.out.2.trans (hb_.mono (by have := SS.out.2.size; omega))⟩); clear hb_) | (go_at_call 36; (with_reducible refine (htl _).mono ?_); rintro e W_ ⟨rfl, hb_⟩; replace SS := Aside.mk (show Blk _ H _ _ ∧ Below H _ _ from ⟨SS.out.1.below hb_, SS.out.2.trans (hb_.mono (by have := SS.out.2.size; omega))⟩); clear hb_) | (go_at_call 30; (with_reducible refine (hno _).mono ?_); rintro e W_ ⟨rfl, hb_⟩; replace SS := Aside.mk (show Blk _ H _ _ ∧ Below H _ _ from ⟨SS.out.1.below hb_, SS.out.2.trans (hb_.mono (by have := SS.out.2.size; omega))⟩); clear hb_) | ((with_reducible refine at_store (p := 2) rfl ?_); refine store_blk rfl 23 _ _ (by rfl) H (by rfl) #[.string ⟨#[]⟩, .string ⟨#[]⟩] #[.string ⟨#[]⟩, .string ⟨#[]⟩] 23 SS.out.1 (by rfl) (by rfl) (by kernel_rfl) (by simp [Value.oneCell']) ?_; intro w5 hb5 hc5; have B5 := Aside.mk hb5; have L5 := Aside.mk (show Below H w w5 from hc5.below SS.out.2 (fun k hk => Nat.le_of_eq hk.symm) (by have := SS.out.2.size; omega)); clear hb5 hc5))
  refine region_class (C := (fun w' => Blk w' H #[.string ⟨#[]⟩, .string ⟨#[]⟩] 23 ∧ Below H w w')) (by kernel_rfl) (by kernel_rfl) ⟨SS.out.1.below (pw_below_drewN (Below.refl _ _) 1), pw_below_drewN SS.out.2 1⟩ ?_
  refine q_run ?_ ?_ ?_ ?_
  · kernel_rfl
  rotate_left
  · intro w_ hw_
    skip
    first | (go_simp; done) | (go_simp; with_reducible rfl) | (go_simp; rw [if_neg (by first | omega | (simp; omega))])
  try simp only [Act.put, List.setIfInBounds_toArray, List.set_cons_zero, List.set_cons_succ]
  refine q_run ?_ ?_ ?_ ?_
  · kernel_rfl
  rotate_left
  · intro w_ hw_
    skip
    first | (go_simp; done) | (go_simp; with_reducible rfl) | (go_simp; rw [if_neg (by first | omega | (simp; omega))])
  try simp only [Act.put, List.setIfInBounds_toArray, List.set_cons_zero, List.set_cons_succ]
  refine q_run ?_ ?_ ?_ ?_
  · kernel_rfl
  rotate_left
  · intro w_ hw_
    skip
    first | (go_simp; done) | (go_simp; with_reducible rfl) | (go_simp; rw [if_neg (by first | omega | (simp; omega))])
  try simp only [Act.put, List.setIfInBounds_toArray, List.set_cons_zero, List.set_cons_succ]
  refine q_run ?_ ?_ ?_ ?_
  · kernel_rfl
  rotate_left
  · intro w_ hw_
    skip
    first | (go_simp; done) | (go_simp; with_reducible rfl) | (go_simp; rw [if_neg (by first | omega | (simp; omega))])
  try simp only [Act.put, List.setIfInBounds_toArray, List.set_cons_zero, List.set_cons_succ]
  refine q_run ?_ ?_ ?_ ?_
  · kernel_rfl
  rotate_left
  · intro w_ hw_
    skip
    first | (go_simp; done) | (go_simp; with_reducible rfl) | (go_simp; rw [if_neg (by first | omega | (simp; omega))])
  try simp only [Act.put, List.setIfInBounds_toArray, List.set_cons_zero, List.set_cons_succ]
  refine q_run ?_ ?_ ?_ ?_
  · kernel_rfl
  rotate_left
  · intro w_ hw_
    skip
    first | (go_simp; done) | (go_simp; with_reducible rfl) | (go_simp; rw [if_neg (by first | omega | (simp; omega))])
  try simp only [Act.put, List.setIfInBounds_toArray, List.set_cons_zero, List.set_cons_succ]
  refine q_run ?_ ?_ ?_ ?_
  · kernel_rfl
  rotate_left
  · intro w_ hw_
    skip
    first | (go_simp; done) | (go_simp; with_reducible rfl) | (go_simp; rw [if_neg (by first | omega | (simp; omega))])
  try simp only [Act.put, List.setIfInBounds_toArray, List.set_cons_zero, List.set_cons_succ]
  refine q_run ?_ ?_ ?_ ?_
  · kernel_rfl
  rotate_left
  · intro w_ hw_
    skip
    first | (go_simp; done) | (go_simp; with_reducible rfl) | (go_simp; rw [if_neg (by first | omega | (simp; omega))])
  try simp only [Act.put, List.setIfInBounds_toArray, List.set_cons_zero, List.set_cons_succ]
  refine q_nil ?_
  intro W_ hC_
  replace SS := Aside.mk hC_
  clear hC_
  go_wp2_with (first | (go_at_call 31; (first | (with_reducible refine (cp1 _).mono ?_) | (with_reducible refine (cp2 _).mono ?_) | (with_reducible refine (cp3 _).mono ?_)); rintro e w_ ⟨rfl, hw_⟩; have hw2_ := hw_.symm; subst hw2_; clear hw_) | (go_at_call 32; (with_reducible refine (hp _).mono ?_); rintro e w_ ⟨rfl, hw_⟩; have hw2_ := hw_.symm; subst hw2_; clear hw_) | (go_at_call 34; (with_reducible refine (hi _).mono ?_); rintro e W_ ⟨rfl, hb_⟩; replace SS := Aside.mk (show Blk _ H _ _ ∧ Below H _ _ from ⟨SS.out.1.below hb_, SS.out.2.trans (hb_.mono (by have := SS.out.2.size; omega))⟩); clear hb_) | (go_at_call 35; (with_reducible refine (hat _).mono ?_); rintro e W_ ⟨rfl, hb_⟩; replace SS := Aside.mk (show Blk _ H _ _ ∧ Below H _ _ from ⟨SS.out.1.below hb_, SS.out.2.trans (hb_.mono (by have := SS.out.2.size; omega))⟩); clear hb_) | (go_at_call 36; (with_reducible refine (htl _).mono ?_); rintro e W_ ⟨rfl, hb_⟩; replace SS := Aside.mk (show Blk _ H _ _ ∧ Below H _ _ from ⟨SS.out.1.below hb_, SS.out.2.trans (hb_.mono (by have := SS.out.2.size; omega))⟩); clear hb_) | (go_at_call 30; (with_reducible refine (hno _).mono ?_); rintro e W_ ⟨rfl, hb_⟩; replace SS := Aside.mk (show Blk _ H _ _ ∧ Below H _ _ from ⟨SS.out.1.below hb_, SS.out.2.trans (hb_.mono (by have := SS.out.2.size; omega))⟩); clear hb_) | ((with_reducible refine at_store (p := 2) rfl ?_); refine store_blk rfl 23 _ _ (by rfl) H (by rfl) #[.string ⟨#[]⟩, .string ⟨#[]⟩] #[.string ⟨#[]⟩, .string ⟨#[]⟩] 23 SS.out.1 (by rfl) (by rfl) (by kernel_rfl) (by simp [Value.oneCell']) ?_; intro w5 hb5 hc5; have B5 := Aside.mk hb5; have L5 := Aside.mk (show Below H w w5 from hc5.below SS.out.2 (fun k hk => Nat.le_of_eq hk.symm) (by have := SS.out.2.size; omega)); clear hb5 hc5))
  refine bodyPost_ret (results_blk3 (by rfl) _ _ H (by rfl) #[.string ⟨#[]⟩, .string ⟨#[]⟩] 23 _ B5.out Tryz.underlying23 rfl (by kernel_rfl)) rfl ⟨?_, L5.out⟩
  rfl
set_option maxHeartbeats 8000000 in
theorem pathParse_p4 (s : ByteArray) (hs : s.size ≤ 100000) (t : ByteArray) (h1 : Lib.hasPrefix s.data.toList [60] = true) (ht : (⟨(Lib.trimPrefix s.data.toList [60]).toArray⟩ : ByteArray) = t) (h2 : Lib.hasPrefix t.data.toList [62] = false) (hts : t.size ≤ 100000) (h3 : Lib.hasPrefix t.data.toList [34] = false) (n : Nat) (hx : Lib.indexAny t.data.toList [64, 62] = (n : Int)) (hn : n < t.size) (lo rest : ByteArray) (hlo : t.extract 0 n = lo) (hre : t.extract n t.size = rest) (h5 : Pt.atoms lo.data.toList = true) (r : ByteArray) (h6 : Lib.hasPrefix rest.data.toList [62] = true) (hr : (⟨(Lib.trimPrefix rest.data.toList [62]).toArray⟩ : ByteArray) = r) (low : ByteArray) (hlw : (⟨(Lib.toLowerA lo.data.toList).toArray⟩ : ByteArray) = low) (h7 : (low.toList != [112, 111, 115, 116, 109, 97, 115, 116, 101, 114]) = false) (h7b : (low.toList == [112, 111, 115, 116, 109, 97, 115, 116, 101, 114]) = true) (w : World) (hl : Lv w) : Calls Tryz.prog 12 #[.string s] w fun e w' => e = .returned (.tuple #[.agg #[.string ⟨#[112, 111, 115, 116, 109, 97, 115, 116, 101, 114]⟩, .string ⟨#[]⟩], .string r, .int .i64 0]) ∧ Below w.heap.size w w' := by
  have cp1 := fun W => Tryz.strings_CutPrefix s ⟨#[60]⟩ W
  change ∀ W, Calls _ _ _ W (fun e w' => e = .returned (.tuple #[.string ⟨(Lib.trimPrefix s.data.toList [60]).toArray⟩, .bool (Lib.hasPrefix s.data.toList [60])]) ∧ _) at cp1
  rw [h1, ht] at cp1
  have cp2 := fun W => Tryz.strings_CutPrefix t ⟨#[62]⟩ W
  change ∀ W, Calls _ _ _ W (fun e w' => e = .returned (.tuple #[.string ⟨(Lib.trimPrefix t.data.toList [62]).toArray⟩, .bool (Lib.hasPrefix t.data.toList [62])]) ∧ _) at cp2
  rw [h2] at cp2
  have hp := fun W => Tryz.strings_HasPrefix t ⟨#[34]⟩ W
  change ∀ W, Calls _ _ _ W (fun e w' => e = .returned (.bool (Lib.hasPrefix t.data.toList [34])) ∧ _) at hp
  rw [h3] at hp
  have hi := fun W => idxA_any t (by omega) W
  rw [hx] at hi
  have n0 : decide ((n : Int) < 0) = false := decide_eq_false (by omega)
  have n1 : (n : Int) ≤ (t.size : Int) := by omega
  have n2 : (0 : Int) ≤ (n : Int) := by omega
  have hls : lo.size ≤ 100000 := by rw [← hlo]; simp; omega
  have hrs : rest.size ≤ 100000 := by rw [← hre]; simp; omega
  have hat := fun W => atoms_any lo (by omega) W
  rw [h5] at hat
  have cp3 := fun W => Tryz.strings_CutPrefix rest ⟨#[62]⟩ W
  change ∀ W, Calls _ _ _ W (fun e w' => e = .returned (.tuple #[.string ⟨(Lib.trimPrefix rest.data.toList [62]).toArray⟩, .bool (Lib.hasPrefix rest.data.toList [62])]) ∧ _) at cp3
  rw [h6, hr] at cp3
  have htl := fun W => Tryz.strings_ToLower_ascii lo W (by omega) (atoms_ascii lo h5)
  rw [hlw] at htl
  clear h1 h2 h3 ht hx hts h5 hls hrs h6 hr hlw
  have hno := fun W => none_any W
  obtain ⟨H, hH⟩ : ∃ H, w.heap.size = H := ⟨_, rfl⟩
  have HLv : Aside (∀ W, Below H w W → Lv W) := ⟨fun W h => hl.next (hH ▸ h)⟩
  have SS : Aside (Blk (w.alloc (.cells #[.string ⟨#[]⟩, .string ⟨#[]⟩] 23)) H #[.string ⟨#[]⟩, .string ⟨#[]⟩] 23 ∧ Below H w (w.alloc (.cells #[.string ⟨#[]⟩, .string ⟨#[]⟩] 23))) := ⟨hH ▸ Blk.new (w := w) #[.string ⟨#[]⟩, .string ⟨#[]⟩] 23, (Below.refl _ w).alloc (by omega) _⟩
  clear hl
  rw [hH]
  go_enter Tryz.func12, Tryz.ntmps12
  go_wp2_with (first | (go_at_call 31; (first | (with_reducible refine (cp1 _).mono ?_) | (with_reducible refine (cp2 _).mono ?_) | (with_reducible refine (cp3 _).mono ?_)); rintro e w_ ⟨rfl, hw_⟩; have hw2_ := hw_.symm; subst hw2_; clear hw_) | (go_at_call 32; (with_reducible refine (hp _).mono ?_); rintro e w_ ⟨rfl, hw_⟩; have hw2_ := hw_.symm; subst hw2_; clear hw_) | (go_at_call 34; (with_reducible refine (hi _).mono ?_); rintro e W_ ⟨rfl, hb_⟩; replace SS := Aside.mk (show Blk _ H _ _ ∧ Below H _ _ from ⟨SS.out.1.below hb_, SS.out.2.trans (hb_.mono (by have := SS.out.2.size; omega))⟩); clear hb_) | (go_at_call 35; (with_reducible refine (hat _).mono ?_); rintro e W_ ⟨rfl, hb_⟩; replace SS := Aside.mk (show Blk _ H _ _ ∧ Below H _ _ from ⟨SS.out.1.below hb_, SS.out.2.trans (hb_.mono (by have := SS.out.2.size; omega))⟩); clear hb_) | (go_at_call 36; (with_reducible refine (htl _).mono ?_); rintro e W_ ⟨rfl, hb_⟩; replace SS := Aside.mk (show Blk _ H _ _ ∧ Below H _ _ from ⟨SS.out.1.below hb_, SS.out.2.trans (hb_.mono (by have := SS.out.2.size; omega))⟩); clear hb_) | (go_at_call 30; (with_reducible refine (hno _).mono ?_); rintro e W_ ⟨rfl, hb_⟩; replace SS := Aside.mk (show Blk _ H _ _ ∧ Below H _ _ from ⟨SS.out.1.below hb_, SS.out.2.trans (hb_.mono (by have := SS.out.2.size; omega))⟩); clear hb_) | ((with_reducible refine at_store (p := 2) rfl ?_); refine store_blk rfl 23 _ _ (by rfl) H (by rfl) #[.string ⟨#[]⟩, .string ⟨#[]⟩] #[.string ⟨#[112, 111, 115, 116, 109, 97, 115, 116, 101, 114]⟩, .string ⟨#[]⟩] 23 SS.out.1 (by rfl) (by rfl) (by kernel_rfl) (by simp [Value.oneCell']) ?_; intro w5 hb5 hc5; have B5 := Aside.mk hb5; have L5 := Aside.mk (show Below H w w5 from hc5.below SS.out.2 (fun k hk => Nat.le_of_eq hk.symm) (by have := SS.out.2.size; omega)); clear hb5 hc5))
  refine region_class (C := (fun w' => Blk w' H #[.string ⟨#[]⟩, .string ⟨#[]⟩] 23 ∧ Below H w w')) (by kernel_rfl) (by kernel_rfl) ⟨SS.out.1.below (pw_below_drewN (Below.refl _ _) 1), pw_below_drewN SS.out.2 1⟩ ?_
  refine q_run ?_ ?_ ?_ ?_
  · kernel_rfl
  rotate_left
  · intro w_ hw_
    skip
    first | (go_simp; done) | (go_simp; with_reducible rfl) | (go_simp; rw [if_neg (by first | omega | (simp; omega))])
  try simp only [Act.put, List.setIfInBounds_toArray, List.set_cons_zero, List.set_cons_succ]
  refine q_run ?_ ?_ ?_ ?_
  · kernel_rfl
  rotate_left
  · intro w_ hw_
    skip
    first | (go_simp; done) | (go_simp; with_reducible rfl) | (go_simp; rw [if_neg (by first | omega | (simp; omega))])
  try simp only [Act.put, List.setIfInBounds_toArray, List.set_cons_zero, List.set_cons_succ]
  refine q_run ?_ ?_ ?_ ?_
  · kernel_rfl
  rotate_left
  · intro w_ hw_
    skip
    first | (go_simp; done) | (go_simp; with_reducible rfl) | (go_simp; rw [if_neg (by first | omega | (simp; omega))])
  try simp only [Act.put, List.setIfInBounds_toArray, List.set_cons_zero, List.set_cons_succ]
  refine q_run ?_ ?_ ?_ ?_
  · kernel_rfl
  rotate_left
  · intro w_ hw_
    skip
    first | (go_simp; done) | (go_simp; with_reducible rfl) | (go_simp; rw [if_neg (by first | omega | (simp; omega))])
  try simp only [Act.put, List.setIfInBounds_toArray, List.set_cons_zero, List.set_cons_succ]
  refine q_run ?_ ?_ ?_ ?_
  · kernel_rfl
  rotate_left
  · intro w_ hw_
    skip
    first | (go_simp; done) | (go_simp; with_reducible rfl) | (go_simp; rw [if_neg (by first | omega | (simp; omega))])
  try simp only [Act.put, List.setIfInBounds_toArray, List.set_cons_zero, List.set_cons_succ]
  refine q_run ?_ ?_ ?_ ?_
  · kernel_rfl
  rotate_left
  · intro w_ hw_
    skip
    first | (go_simp; done) | (go_simp; with_reducible rfl) | (go_simp; rw [if_neg (by first | omega | (simp; omega))])
  try simp only [Act.put, List.setIfInBounds_toArray, List.set_cons_zero, List.set_cons_succ]
  refine q_run ?_ ?_ ?_ ?_
  · kernel_rfl
  rotate_left
  · intro w_ hw_
    skip
    first | (go_simp; done) | (go_simp; with_reducible rfl) | (go_simp; rw [if_neg (by first | omega | (simp; omega))])
  try simp only [Act.put, List.setIfInBounds_toArray, List.set_cons_zero, List.set_cons_succ]
  refine q_run ?_ ?_ ?_ ?_
  · kernel_rfl
  rotate_left
  · intro w_ hw_
    skip
    first | (go_simp; done) | (go_simp; with_reducible rfl) | (go_simp; rw [if_neg (by first | omega | (simp; omega))])
  try simp only [Act.put, List.setIfInBounds_toArray, List.set_cons_zero, List.set_cons_succ]
  refine q_nil ?_
  intro W_ hC_
  replace SS := Aside.mk hC_
  clear hC_
  go_wp2_with (first | (go_at_call 31; (first | (with_reducible refine (cp1 _).mono ?_) | (with_reducible refine (cp2 _).mono ?_) | (with_reducible refine (cp3 _).mono ?_)); rintro e w_ ⟨rfl, hw_⟩; have hw2_ := hw_.symm; subst hw2_; clear hw_) | (go_at_call 32; (with_reducible refine (hp _).mono ?_); rintro e w_ ⟨rfl, hw_⟩; have hw2_ := hw_.symm; subst hw2_; clear hw_) | (go_at_call 34; (with_reducible refine (hi _).mono ?_); rintro e W_ ⟨rfl, hb_⟩; replace SS := Aside.mk (show Blk _ H _ _ ∧ Below H _ _ from ⟨SS.out.1.below hb_, SS.out.2.trans (hb_.mono (by have := SS.out.2.size; omega))⟩); clear hb_) | (go_at_call 35; (with_reducible refine (hat _).mono ?_); rintro e W_ ⟨rfl, hb_⟩; replace SS := Aside.mk (show Blk _ H _ _ ∧ Below H _ _ from ⟨SS.out.1.below hb_, SS.out.2.trans (hb_.mono (by have := SS.out.2.size; omega))⟩); clear hb_) | (go_at_call 36; (with_reducible refine (htl _).mono ?_); rintro e W_ ⟨rfl, hb_⟩; replace SS := Aside.mk (show Blk _ H _ _ ∧ Below H _ _ from ⟨SS.out.1.below hb_, SS.out.2.trans (hb_.mono (by have := SS.out.2.size; omega))⟩); clear hb_) | (go_at_call 30; (with_reducible refine (hno _).mono ?_); rintro e W_ ⟨rfl, hb_⟩; replace SS := Aside.mk (show Blk _ H _ _ ∧ Below H _ _ from ⟨SS.out.1.below hb_, SS.out.2.trans (hb_.mono (by have := SS.out.2.size; omega))⟩); clear hb_) | ((with_reducible refine at_store (p := 2) rfl ?_); refine store_blk rfl 23 _ _ (by rfl) H (by rfl) #[.string ⟨#[]⟩, .string ⟨#[]⟩] #[.string ⟨#[112, 111, 115, 116, 109, 97, 115, 116, 101, 114]⟩, .string ⟨#[]⟩] 23 SS.out.1 (by rfl) (by rfl) (by kernel_rfl) (by simp [Value.oneCell']) ?_; intro w5 hb5 hc5; have B5 := Aside.mk hb5; have L5 := Aside.mk (show Below H w w5 from hc5.below SS.out.2 (fun k hk => Nat.le_of_eq hk.symm) (by have := SS.out.2.size; omega)); clear hb5 hc5))
  refine bodyPost_ret (results_blk3 (by rfl) _ _ H (by rfl) #[.string ⟨#[112, 111, 115, 116, 109, 97, 115, 116, 101, 114]⟩, .string ⟨#[]⟩] 23 _ B5.out Tryz.underlying23 rfl (by kernel_rfl)) rfl ⟨?_, L5.out⟩
  rfl
end Go.Proofs.YtllhbcpbihhdnaaGreatDoor
