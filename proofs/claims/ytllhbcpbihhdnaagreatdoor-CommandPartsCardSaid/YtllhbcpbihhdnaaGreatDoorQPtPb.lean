/-
  Where mail goes: Parse: behind a local part of atoms.
-/
import Derived.Test.YtllhbcpbihhdnaaGreatDoorQPtPa
set_option linter.unusedVariables false
set_option linter.unusedSimpArgs false
namespace Go.Proofs.YtllhbcpbihhdnaaGreatDoor
open Go.RowKit Go.Shelf
set_option maxRecDepth 100000
set_option maxHeartbeats 8000000 in
theorem pathParse_t1 (s : ByteArray) (hs : s.size ≤ 100000) (t : ByteArray) (h1 : Lib.hasPrefix s.data.toList [60] = true) (ht : (⟨(Lib.trimPrefix s.data.toList [60]).toArray⟩ : ByteArray) = t) (h2 : Lib.hasPrefix t.data.toList [62] = false) (hts : t.size ≤ 100000) (h3 : Lib.hasPrefix t.data.toList [34] = false) (n : Nat) (hx : Lib.indexAny t.data.toList [64, 62] = (n : Int)) (hn : n < t.size) (lo rest : ByteArray) (hlo : t.extract 0 n = lo) (hre : t.extract n t.size = rest) (h5 : Pt.atoms lo.data.toList = true) (h6 : Lib.hasPrefix rest.data.toList [62] = false) (a b : ByteArray) (c1 : (⟨(Lib.cut rest.data.toList [62]).1.toArray⟩ : ByteArray) = a) (c2 : (⟨(Lib.cut rest.data.toList [62]).2.1.toArray⟩ : ByteArray) = b) (c3 : (Lib.cut rest.data.toList [62]).2.2 = false)  (w : World) (hl : Lv w) : Calls Tryz.prog 12 #[.string s] w fun e w' => e = .returned (.tuple #[.agg #[.string ⟨#[]⟩, .string ⟨#[]⟩], .string ⟨#[]⟩, .int .i64 2]) ∧ Below w.heap.size w w' := by
  have cp1 := fun W => Tryz.strings_CutPrefix s ⟨#[60]⟩ W
  change ∀ W, Calls _ _ _ W (fun e w' => e = .returned (.tuple #[.string ⟨(Lib.trimPrefix s.data.toList [60]).toArray⟩, .bool (Lib.hasPrefix s.data.toList [60])]) ∧ _) at cp1
  rw [h1, ht] at cp1
  have cp2 := fun W => Tryz.strings_CutPrefix t ⟨#[62]⟩ W
  change ∀ W, Calls _ _ _ W (fun e w' => e = .returned (.tuple #[.string ⟨(Lib.trimPrefix t.data.toList [62]).toArray⟩, .bool (Lib.hasPrefix t.data.toList [62])]) ∧ _) at cp2
  rw [h2] at cp2
  have hp := fun W => Tryz.strings_HasPrefix t ⟨#[34]⟩ W
  change ∀ W, Calls _ _ _ W (fun e w' => e = .returned (.bool (Lib.hasPrefix t.data.toList [34])) ∧ _) at hp
  rw [h3] at hp
  have hi := fun W => idxA_any t (by omega) W
  rw [hx] at hi
  have n0 : decide ((n : Int) < 0) = false := decide_eq_false (by omega)
  have n1 : (n : Int) ≤ (t.size : Int) := by omega
  have n2 : (0 : Int) ≤ (n : Int) := by omega
  have hls : lo.size ≤ 100000 := by rw [← hlo]; simp; omega
  have hrs : rest.size ≤ 100000 := by rw [← hre]; simp; omega
  have hat := fun W => atoms_any lo (by omega) W
  rw [h5] at hat
  have cp3 := fun W => Tryz.strings_CutPrefix rest ⟨#[62]⟩ W
  change ∀ W, Calls _ _ _ W (fun e w' => e = .returned (.tuple #[.string ⟨(Lib.trimPrefix rest.data.toList [62]).toArray⟩, .bool (Lib.hasPrefix rest.data.toList [62])]) ∧ _) at cp3
  rw [h6] at cp3
  have hcu := fun W (hW : Lv W) => cut_any rest ⟨#[62]⟩ W hW (by omega)
  change ∀ W, Lv W → Calls _ _ _ W (fun e w' => e = .returned (.tuple #[.string ⟨(Lib.cut rest.data.toList [62]).1.toArray⟩, .string ⟨(Lib.cut rest.data.toList [62]).2.1.toArray⟩, .bool (Lib.cut rest.data.toList [62]).2.2]) ∧ _) at hcu
  rw [c1, c2, c3] at hcu
  have cp4 := fun W => Tryz.strings_CutPrefix a ⟨#[64]⟩ W
  change ∀ W, Calls _ _ _ W (fun e w' => e = .returned (.tuple #[.string ⟨(Lib.trimPrefix a.data.toList [64]).toArray⟩, .bool (Lib.hasPrefix a.data.toList [64])]) ∧ _) at cp4
  clear h1 h2 h3 ht hx hts h5 hls hrs h6 c1 c2 c3
  have hno := fun W => none_any W
  obtain ⟨H, hH⟩ : ∃ H, w.heap.size = H := ⟨_, rfl⟩
  have HLv : Aside (∀ W, Below H w W → Lv W) := ⟨fun W h => hl.next (hH ▸ h)⟩
  have SS : Aside (Blk (w.alloc (.cells #[.string ⟨#[]⟩, .string ⟨#[]⟩] 23)) H #[.string ⟨#[]⟩, .string ⟨#[]⟩] 23 ∧ Below H w (w.alloc (.cells #[.string ⟨#[]⟩, .string ⟨#[]⟩] 23))) := ⟨hH ▸ Blk.new (w := w) #[.string ⟨#[]⟩, .string ⟨#[]⟩] 23, (Below.refl _ w).alloc (by omega) _⟩
  clear hl
  rw [hH]
  go_enter Tryz.func12, Tryz.ntmps12
  go_wp2_with (first | (go_at_call 31; (first | (with_reducible refine (cp1 _).mono ?_) | (with_reducible refine (cp2 _).mono ?_) | (with_reducible refine (cp3 _).mono ?_) | (with_reducible refine (cp4 _).mono ?_)); rintro e w_ ⟨rfl, hw_⟩; have hw2_ := hw_.symm; subst hw2_; clear hw_) | (go_at_call 32; (with_reducible refine (hp _).mono ?_); rintro e w_ ⟨rfl, hw_⟩; have hw2_ := hw_.symm; subst hw2_; clear hw_) | (go_at_call 34; (with_reducible refine (hi _).mono ?_); rintro e W_ ⟨rfl, hb_⟩; replace SS := Aside.mk (show Blk _ H _ _ ∧ Below H _ _ from ⟨SS.out.1.below hb_, SS.out.2.trans (hb_.mono (by have := SS.out.2.size; omega))⟩); clear hb_) | (go_at_call 35; (with_reducible refine (hat _).mono ?_); rintro e W_ ⟨rfl, hb_⟩; replace SS := Aside.mk (show Blk _ H _ _ ∧ Below H _ _ from ⟨SS.out.1.below hb_, SS.out.2.trans (hb_.mono (by have := SS.out.2.size; omega))⟩); clear hb_) | (go_at_call 24; (with_reducible refine (hcu _ (HLv.out _ SS.out.2)).mono ?_); rintro e W_ ⟨rfl, hb_⟩; replace SS := Aside.mk (show Blk _ H _ _ ∧ Below H _ _ from ⟨SS.out.1.below hb_, SS.out.2.trans (hb_.mono (by have := SS.out.2.size; omega))⟩); clear hb_) | (go_at_call 30; (with_reducible refine (hno _).mono ?_); rintro e W_ ⟨rfl, hb_⟩; replace SS := Aside.mk (show Blk _ H _ _ ∧ Below H _ _ from ⟨SS.out.1.below hb_, SS.out.2.trans (hb_.mono (by have := SS.out.2.size; omega))⟩); clear hb_) | ((with_reducible refine at_store (p := 2) rfl ?_); refine store_blk rfl 23 _ _ (by rfl) H (by rfl) #[.string ⟨#[]⟩, .string ⟨#[]⟩] #[.string ⟨#[]⟩, .string ⟨#[]⟩] 23 SS.out.1 (by rfl) (by rfl) (by kernel_rfl) (by simp [Value.oneCell']) ?_; intro w5 hb5 hc5; have B5 := Aside.mk hb5; have L5 := Aside.mk (show Below H w w5 from hc5.below SS.out.2 (fun k hk => Nat.le_of_eq hk.symm) (by have := SS.out.2.size; omega)); clear hb5 hc5))
  refine region_class (C := (fun w' => Blk w' H #[.string ⟨#[]⟩, .string ⟨#[]⟩] 23 ∧ Below H w w')) (by kernel_rfl) (by kernel_rfl) ⟨SS.out.1.below (pw_below_drewN (Below.refl _ _) 1), pw_below_drewN SS.out.2 1⟩ ?_
  refine q_run ?_ ?_ ?_ ?_
  · kernel_rfl
  rotate_left
  · intro w_ hw_
    skip
    first | (go_simp; done) | (go_simp; with_reducible rfl) | (go_simp; rw [if_neg (by first | omega | (simp; omega))])
  try simp only [Act.put, List.setIfInBounds_toArray, List.set_cons_zero, List.set_cons_succ]
  refine q_run ?_ ?_ ?_ ?_
  · kernel_rfl
  rotate_left
  · intro w_ hw_
    skip
    first | (go_simp; done) | (go_simp; with_reducible rfl) | (go_simp; rw [if_neg (by first | omega | (simp; omega))])
  try simp only [Act.put, List.setIfInBounds_toArray, List.set_cons_zero, List.set_cons_succ]
  refine q_run ?_ ?_ ?_ ?_
  · kernel_rfl
  rotate_left
  · intro w_ hw_
    skip
    first | (go_simp; done) | (go_simp; with_reducible rfl) | (go_simp; rw [if_neg (by first | omega | (simp; omega))])
  try simp only [Act.put, List.setIfInBounds_toArray, List.set_cons_zero, List.set_cons_succ]
  refine q_run ?_ ?_ ?_ ?_
  · kernel_rfl
  rotate_left
  · intro w_ hw_
    skip
    first | (go_simp; done) | (go_simp; with_reducible rfl) | (go_simp; rw [if_neg (by first | omega | (simp; omega))])
  try simp only [Act.put, List.setIfInBounds_toArray, List.set_cons_zero, List.set_cons_succ]
  refine q_run ?_ ?_ ?_ ?_
  · kernel_rfl
  rotate_left
  · intro w_ hw_
    skip
    first | (go_simp; done) | (go_simp; with_reducible rfl) | (go_simp; rw [if_neg (by first | omega | (simp; omega))])
  try simp only [Act.put, List.setIfInBounds_toArray, List.set_cons_zero, List.set_cons_succ]
  refine q_run ?_ ?_ ?_ ?_
  · kernel_rfl
  rotate_left
  · intro w_ hw_
    skip
    first | (go_simp; done) | (go_simp; with_reducible rfl) | (go_simp; rw [if_neg (by first | omega | (simp; omega))])
  try simp only [Act.put, List.setIfInBounds_toArray, List.set_cons_zero, List.set_cons_succ]
  refine q_run ?_ ?_ ?_ ?_
  · kernel_rfl
  rotate_left
  · intro w_ hw_
    skip
    first | (go_simp; done) | (go_simp; with_reducible rfl) | (go_simp; rw [if_neg (by first | omega | (simp; omega))])
  try simp only [Act.put, List.setIfInBounds_toArray, List.set_cons_zero, List.set_cons_succ]
  refine q_run ?_ ?_ ?_ ?_
  · kernel_rfl
  rotate_left
  · intro w_ hw_
    skip
    first | (go_simp; done) | (go_simp; with_reducible rfl) | (go_simp; rw [if_neg (by first | omega | (simp; omega))])
  try simp only [Act.put, List.setIfInBounds_toArray, List.set_cons_zero, List.set_cons_succ]
  refine q_nil ?_
  intro W_ hC_
  replace SS := Aside.mk hC_
  clear hC_
  go_wp2_with (first | (go_at_call 31; (first | (with_reducible refine (cp1 _).mono ?_) | (with_reducible refine (cp2 _).mono ?_) | (with_reducible refine (cp3 _).mono ?_) | (with_reducible refine (cp4 _).mono ?_)); rintro e w_ ⟨rfl, hw_⟩; have hw2_ := hw_.symm; subst hw2_; clear hw_) | (go_at_call 32; (with_reducible refine (hp _).mono ?_); rintro e w_ ⟨rfl, hw_⟩; have hw2_ := hw_.symm; subst hw2_; clear hw_) | (go_at_call 34; (with_reducible refine (hi _).mono ?_); rintro e W_ ⟨rfl, hb_⟩; replace SS := Aside.mk (show Blk _ H _ _ ∧ Below H _ _ from ⟨SS.out.1.below hb_, SS.out.2.trans (hb_.mono (by have := SS.out.2.size; omega))⟩); clear hb_) | (go_at_call 35; (with_reducible refine (hat _).mono ?_); rintro e W_ ⟨rfl, hb_⟩; replace SS := Aside.mk (show Blk _ H _ _ ∧ Below H _ _ from ⟨SS.out.1.below hb_, SS.out.2.trans (hb_.mono (by have := SS.out.2.size; omega))⟩); clear hb_) | (go_at_call 24; (with_reducible refine (hcu _ (HLv.out _ SS.out.2)).mono ?_); rintro e W_ ⟨rfl, hb_⟩; replace SS := Aside.mk (show Blk _ H _ _ ∧ Below H _ _ from ⟨SS.out.1.below hb_, SS.out.2.trans (hb_.mono (by have := SS.out.2.size; omega))⟩); clear hb_) | (go_at_call 30; (with_reducible refine (hno _).mono ?_); rintro e W_ ⟨rfl, hb_⟩; replace SS := Aside.mk (show Blk _ H _ _ ∧ Below H _ _ from ⟨SS.out.1.below hb_, SS.out.2.trans (hb_.mono (by have := SS.out.2.size; omega))⟩); clear hb_) | ((with_reducible refine at_store (p := 2) rfl ?_); refine store_blk rfl 23 _ _ (by rfl) H (by rfl) #[.string ⟨#[]⟩, .string ⟨#[]⟩] #[.string ⟨#[]⟩, .string ⟨#[]⟩] 23 SS.out.1 (by rfl) (by rfl) (by kernel_rfl) (by simp [Value.oneCell']) ?_; intro w5 hb5 hc5; have B5 := Aside.mk hb5; have L5 := Aside.mk (show Below H w w5 from hc5.below SS.out.2 (fun k hk => Nat.le_of_eq hk.symm) (by have := SS.out.2.size; omega)); clear hb5 hc5))
  refine bodyPost_ret (results_blk3 (by rfl) _ _ H (by rfl) #[.string ⟨#[]⟩, .string ⟨#[]⟩] 23 _ B5.out Tryz.underlying23 rfl (by kernel_rfl)) rfl ⟨?_, L5.out⟩
  rfl
set_option maxHeartbeats 8000000 in
theorem pathParse_t2 (s : ByteArray) (hs : s.size ≤ 100000) (t : ByteArray) (h1 : Lib.hasPrefix s.data.toList [60] = true) (ht : (⟨(Lib.trimPrefix s.data.toList [60]).toArray⟩ : ByteArray) = t) (h2 : Lib.hasPrefix t.data.toList [62] = false) (hts : t.size ≤ 100000) (h3 : Lib.hasPrefix t.data.toList [34] = false) (n : Nat) (hx : Lib.indexAny t.data.toList [64, 62] = (n : Int)) (hn : n < t.size) (lo rest : ByteArray) (hlo : t.extract 0 n = lo) (hre : t.extract n t.size = rest) (h5 : Pt.atoms lo.data.toList = true) (h6 : Lib.hasPrefix rest.data.toList [62] = false) (a b : ByteArray) (c1 : (⟨(Lib.cut rest.data.toList [62]).1.toArray⟩ : ByteArray) = a) (c2 : (⟨(Lib.cut rest.data.toList [62]).2.1.toArray⟩ : ByteArray) = b) (c3 : (Lib.cut rest.data.toList [62]).2.2 = true) (a2 : ByteArray) (g1 : (⟨(Lib.trimPrefix a.data.toList [64]).toArray⟩ : ByteArray) = a2) (g2 : Lib.hasPrefix a.data.toList [64] = false)  (w : World) (hl : Lv w) : Calls Tryz.prog 12 #[.string s] w fun e w' => e = .returned (.tuple #[.agg #[.string ⟨#[]⟩, .string ⟨#[]⟩], .string ⟨#[]⟩, .int .i64 2]) ∧ Below w.heap.size w w' := by
  have cp1 := fun W => Tryz.strings_CutPrefix s ⟨#[60]⟩ W
  change ∀ W, Calls _ _ _ W (fun e w' => e = .returned (.tuple #[.string ⟨(Lib.trimPrefix s.data.toList [60]).toArray⟩, .bool (Lib.hasPrefix s.data.toList [60])]) ∧ _) at cp1
  rw [h1, ht] at cp1
  have cp2 := fun W => Tryz.strings_CutPrefix t ⟨#[62]⟩ W
  change ∀ W, Calls _ _ _ W (fun e w' => e = .returned (.tuple #[.string ⟨(Lib.trimPrefix t.data.toList [62]).toArray⟩, .bool (Lib.hasPrefix t.data.toList [62])]) ∧ _) at cp2
  rw [h2] at cp2
  have hp := fun W => Tryz.strings_HasPrefix t ⟨#[34]⟩ W
  change ∀ W, Calls _ _ _ W (fun e w' => e = .returned (.bool (Lib.hasPrefix t.data.toList [34])) ∧ _) at hp
  rw [h3] at hp
  have hi := fun W => idxA_any t (by omega) W
  rw [hx] at hi
  have n0 : decide ((n : Int) < 0) = false := decide_eq_false (by omega)
  have n1 : (n : Int) ≤ (t.size : Int) := by omega
  have n2 : (0 : Int) ≤ (n : Int) := by omega
  have hls : lo.size ≤ 100000 := by rw [← hlo]; simp; omega
  have hrs : rest.size ≤ 100000 := by rw [← hre]; simp; omega
  have hat := fun W => atoms_any lo (by omega) W
  rw [h5] at hat
  have cp3 := fun W => Tryz.strings_CutPrefix rest ⟨#[62]⟩ W
  change ∀ W, Calls _ _ _ W (fun e w' => e = .returned (.tuple #[.string ⟨(Lib.trimPrefix rest.data.toList [62]).toArray⟩, .bool (Lib.hasPrefix rest.data.toList [62])]) ∧ _) at cp3
  rw [h6] at cp3
  have hcu := fun W (hW : Lv W) => cut_any rest ⟨#[62]⟩ W hW (by omega)
  change ∀ W, Lv W → Calls _ _ _ W (fun e w' => e = .returned (.tuple #[.string ⟨(Lib.cut rest.data.toList [62]).1.toArray⟩, .string ⟨(Lib.cut rest.data.toList [62]).2.1.toArray⟩, .bool (Lib.cut rest.data.toList [62]).2.2]) ∧ _) at hcu
  rw [c1, c2, c3] at hcu
  have cp4 := fun W => Tryz.strings_CutPrefix a ⟨#[64]⟩ W
  change ∀ W, Calls _ _ _ W (fun e w' => e = .returned (.tuple #[.string ⟨(Lib.trimPrefix a.data.toList [64]).toArray⟩, .bool (Lib.hasPrefix a.data.toList [64])]) ∧ _) at cp4
  rw [g1, g2] at cp4
  clear h1 h2 h3 ht hx hts h5 hls hrs h6 c1 c2 c3 g1 g2
  have hno := fun W => none_any W
  obtain ⟨H, hH⟩ : ∃ H, w.heap.size = H := ⟨_, rfl⟩
  have HLv : Aside (∀ W, Below H w W → Lv W) := ⟨fun W h => hl.next (hH ▸ h)⟩
  have SS : Aside (Blk (w.alloc (.cells #[.string ⟨#[]⟩, .string ⟨#[]⟩] 23)) H #[.string ⟨#[]⟩, .string ⟨#[]⟩] 23 ∧ Below H w (w.alloc (.cells #[.string ⟨#[]⟩, .string ⟨#[]⟩] 23))) := ⟨hH ▸ Blk.new (w := w) #[.string ⟨#[]⟩, .string ⟨#[]⟩] 23, (Below.refl _ w).alloc (by omega) _⟩
  clear hl
  rw [hH]
  go_enter Tryz.func12, Tryz.ntmps12
  go_wp2_with (first | (go_at_call 31; (first | (with_reducible refine (cp1 _).mono ?_) | (with_reducible refine (cp2 _).mono ?_) | (with_reducible refine (cp3 _).mono ?_) | (with_reducible refine (cp4 _).mono ?_)); rintro e w_ ⟨rfl, hw_⟩; have hw2_ := hw_.symm; subst hw2_; clear hw_) | (go_at_call 32; (with_reducible refine (hp _).mono ?_); rintro e w_ ⟨rfl, hw_⟩; have hw2_ := hw_.symm; subst hw2_; clear hw_) | (go_at_call 34; (with_reducible refine (hi _).mono ?_); rintro e W_ ⟨rfl, hb_⟩; replace SS := Aside.mk (show Blk _ H _ _ ∧ Below H _ _ from ⟨SS.out.1.below hb_, SS.out.2.trans (hb_.mono (by have := SS.out.2.size; omega))⟩); clear hb_) | (go_at_call 35; (with_reducible refine (hat _).mono ?_); rintro e W_ ⟨rfl, hb_⟩; replace SS := Aside.mk (show Blk _ H _ _ ∧ Below H _ _ from ⟨SS.out.1.below hb_, SS.out.2.trans (hb_.mono (by have := SS.out.2.size; omega))⟩); clear hb_) | (go_at_call 24; (with_reducible refine (hcu _ (HLv.out _ SS.out.2)).mono ?_); rintro e W_ ⟨rfl, hb_⟩; replace SS := Aside.mk (show Blk _ H _ _ ∧ Below H _ _ from ⟨SS.out.1.below hb_, SS.out.2.trans (hb_.mono (by have := SS.out.2.size; omega))⟩); clear hb_) | (go_at_call 30; (with_reducible refine (hno _).mono ?_); rintro e W_ ⟨rfl, hb_⟩; replace SS := Aside.mk (show Blk _ H _ _ ∧ Below H _ _ from ⟨SS.out.1.below hb_, SS.out.2.trans (hb_.mono (by have := SS.out.2.size; omega))⟩); clear hb_) | ((with_reducible refine at_store (p := 2) rfl ?_); refine store_blk rfl 23 _ _ (by rfl) H (by rfl) #[.string ⟨#[]⟩, .string ⟨#[]⟩] #[.string ⟨#[]⟩, .string ⟨#[]⟩] 23 SS.out.1 (by rfl) (by rfl) (by kernel_rfl) (by simp [Value.oneCell']) ?_; intro w5 hb5 hc5; have B5 := Aside.mk hb5; have L5 := Aside.mk (show Below H w w5 from hc5.below SS.out.2 (fun k hk => Nat.le_of_eq hk.symm) (by have := SS.out.2.size; omega)); clear hb5 hc5))
  refine region_class (C := (fun w' => Blk w' H #[.string ⟨#[]⟩, .string ⟨#[]⟩] 23 ∧ Below H w w')) (by kernel_rfl) (by kernel_rfl) ⟨SS.out.1.below (pw_below_drewN (Below.refl _ _) 1), pw_below_drewN SS.out.2 1⟩ ?_
  refine q_run ?_ ?_ ?_ ?_
  · kernel_rfl
  rotate_left
  · intro w_ hw_
    skip
    first | (go_simp; done) | (go_simp; with_reducible rfl) | (go_simp; rw [if_neg (by first | omega | (simp; omega))])
  try simp only [Act.put, List.setIfInBounds_toArray, List.set_cons_zero, List.set_cons_succ]
  refine q_run ?_ ?_ ?_ ?_
  · kernel_rfl
  rotate_left
  · intro w_ hw_
    skip
    first | (go_simp; done) | (go_simp; with_reducible rfl) | (go_simp; rw [if_neg (by first | omega | (simp; omega))])
  try simp only [Act.put, List.setIfInBounds_toArray, List.set_cons_zero, List.set_cons_succ]
  refine q_run ?_ ?_ ?_ ?_
  · kernel_rfl
  rotate_left
  · intro w_ hw_
    skip
    first | (go_simp; done) | (go_simp; with_reducible rfl) | (go_simp; rw [if_neg (by first | omega | (simp; omega))])
  try simp only [Act.put, List.setIfInBounds_toArray, List.set_cons_zero, List.set_cons_succ]
  refine q_run ?_ ?_ ?_ ?_
  · kernel_rfl
  rotate_left
  · intro w_ hw_
    skip
    first | (go_simp; done) | (go_simp; with_reducible rfl) | (go_simp; rw [if_neg (by first | omega | (simp; omega))])
  try simp only [Act.put, List.setIfInBounds_toArray, List.set_cons_zero, List.set_cons_succ]
  refine q_run ?_ ?_ ?_ ?_
  · kernel_rfl
  rotate_left
  · intro w_ hw_
    skip
    first | (go_simp; done) | (go_simp; with_reducible rfl) | (go_simp; rw [if_neg (by first | omega | (simp; omega))])
  try simp only [Act.put, List.setIfInBounds_toArray, List.set_cons_zero, List.set_cons_succ]
  refine q_run ?_ ?_ ?_ ?_
  · kernel_rfl
  rotate_left
  · intro w_ hw_
    skip
    first | (go_simp; done) | (go_simp; with_reducible rfl) | (go_simp; rw [if_neg (by first | omega | (simp; omega))])
  try simp only [Act.put, List.setIfInBounds_toArray, List.set_cons_zero, List.set_cons_succ]
  refine q_run ?_ ?_ ?_ ?_
  · kernel_rfl
  rotate_left
  · intro w_ hw_
    skip
    first | (go_simp; done) | (go_simp; with_reducible rfl) | (go_simp; rw [if_neg (by first | omega | (simp; omega))])
  try simp only [Act.put, List.setIfInBounds_toArray, List.set_cons_zero, List.set_cons_succ]
  refine q_run ?_ ?_ ?_ ?_
  · kernel_rfl
  rotate_left
  · intro w_ hw_
    skip
    first | (go_simp; done) | (go_simp; with_reducible rfl) | (go_simp; rw [if_neg (by first | omega | (simp; omega))])
  try simp only [Act.put, List.setIfInBounds_toArray, List.set_cons_zero, List.set_cons_succ]
  refine q_nil ?_
  intro W_ hC_
  replace SS := Aside.mk hC_
  clear hC_
  go_wp2_with (first | (go_at_call 31; (first | (with_reducible refine (cp1 _).mono ?_) | (with_reducible refine (cp2 _).mono ?_) | (with_reducible refine (cp3 _).mono ?_) | (with_reducible refine (cp4 _).mono ?_)); rintro e w_ ⟨rfl, hw_⟩; have hw2_ := hw_.symm; subst hw2_; clear hw_) | (go_at_call 32; (with_reducible refine (hp _).mono ?_); rintro e w_ ⟨rfl, hw_⟩; have hw2_ := hw_.symm; subst hw2_; clear hw_) | (go_at_call 34; (with_reducible refine (hi _).mono ?_); rintro e W_ ⟨rfl, hb_⟩; replace SS := Aside.mk (show Blk _ H _ _ ∧ Below H _ _ from ⟨SS.out.1.below hb_, SS.out.2.trans (hb_.mono (by have := SS.out.2.size; omega))⟩); clear hb_) | (go_at_call 35; (with_reducible refine (hat _).mono ?_); rintro e W_ ⟨rfl, hb_⟩; replace SS := Aside.mk (show Blk _ H _ _ ∧ Below H _ _ from ⟨SS.out.1.below hb_, SS.out.2.trans (hb_.mono (by have := SS.out.2.size; omega))⟩); clear hb_) | (go_at_call 24; (with_reducible refine (hcu _ (HLv.out _ SS.out.2)).mono ?_); rintro e W_ ⟨rfl, hb_⟩; replace SS := Aside.mk (show Blk _ H _ _ ∧ Below H _ _ from ⟨SS.out.1.below hb_, SS.out.2.trans (hb_.mono (by have := SS.out.2.size; omega))⟩); clear hb_) | (go_at_call 30; (with_reducible refine (hno _).mono ?_); rintro e W_ ⟨rfl, hb_⟩; replace SS := Aside.mk (show Blk _ H _ _ ∧ Below H _ _ from ⟨SS.out.1.below hb_, SS.out.2.trans (hb_.mono (by have := SS.out.2.size; omega))⟩); clear hb_) | ((with_reducible refine at_store (p := 2) rfl ?_); refine store_blk rfl 23 _ _ (by rfl) H (by rfl) #[.string ⟨#[]⟩, .string ⟨#[]⟩] #[.string ⟨#[]⟩, .string ⟨#[]⟩] 23 SS.out.1 (by rfl) (by rfl) (by kernel_rfl) (by simp [Value.oneCell']) ?_; intro w5 hb5 hc5; have B5 := Aside.mk hb5; have L5 := Aside.mk (show Below H w w5 from hc5.below SS.out.2 (fun k hk => Nat.le_of_eq hk.symm) (by have := SS.out.2.size; omega)); clear hb5 hc5))
  refine bodyPost_ret (results_blk3 (by rfl) _ _ H (by rfl) #[.string ⟨#[]⟩, .string ⟨#[]⟩] 23 _ B5.out Tryz.underlying23 rfl (by kernel_rfl)) rfl ⟨?_, L5.out⟩
  rfl
set_option maxHeartbeats 8000000 in
theorem pathParse_t3 (s : ByteArray) (hs : s.size ≤ 100000) (t : ByteArray) (h1 : Lib.hasPrefix s.data.toList [60] = true) (ht : (⟨(Lib.trimPrefix s.data.toList [60]).toArray⟩ : ByteArray) = t) (h2 : Lib.hasPrefix t.data.toList [62] = false) (hts : t.size ≤ 100000) (h3 : Lib.hasPrefix t.data.toList [34] = false) (n : Nat) (hx : Lib.indexAny t.data.toList [64, 62] = (n : Int)) (hn : n < t.size) (lo rest : ByteArray) (hlo : t.extract 0 n = lo) (hre : t.extract n t.size = rest) (h5 : Pt.atoms lo.data.toList = true) (h6 : Lib.hasPrefix rest.data.toList [62] = false) (a b : ByteArray) (c1 : (⟨(Lib.cut rest.data.toList [62]).1.toArray⟩ : ByteArray) = a) (c2 : (⟨(Lib.cut rest.data.toList [62]).2.1.toArray⟩ : ByteArray) = b) (c3 : (Lib.cut rest.data.toList [62]).2.2 = true) (a2 : ByteArray) (g1 : (⟨(Lib.trimPrefix a.data.toList [64]).toArray⟩ : ByteArray) = a2) (g2 : Lib.hasPrefix a.data.toList [64] = true) (has2 : a2.size ≤ 100000) (d : ByteArray) (g3 : (⟨(Pt.domain a2.data.toList).1.toArray⟩ : ByteArray) = d) (g4 : (Pt.domain a2.data.toList).2 = 3) (g5 : Pt.shaped a2.data.toList = true) (w : World) (hl : Lv w) : Calls Tryz.prog 12 #[.string s] w fun e w' => e = .returned (.tuple #[.agg #[.string ⟨#[]⟩, .string ⟨#[]⟩], .string ⟨#[]⟩, .int .i64 3]) ∧ Below w.heap.size w w' := by
  have cp1 := fun W => Tryz.strings_CutPrefix s ⟨#[60]⟩ W
  change ∀ W, Calls _ _ _ W (fun e w' => e = .returned (.tuple #[.string ⟨(Lib.trimPrefix s.data.toList [60]).toArray⟩, .bool (Lib.hasPrefix s.data.toList [60])]) ∧ _) at cp1
  rw [h1, ht] at cp1
  have cp2 := fun W => Tryz.strings_CutPrefix t ⟨#[62]⟩ W
  change ∀ W, Calls _ _ _ W (fun e w' => e = .returned (.tuple #[.string ⟨(Lib.trimPrefix t.data.toList [62]).toArray⟩, .bool (Lib.hasPrefix t.data.toList [62])]) ∧ _) at cp2
  rw [h2] at cp2
  have hp := fun W => Tryz.strings_HasPrefix t ⟨#[34]⟩ W
  change ∀ W, Calls _ _ _ W (fun e w' => e = .returned (.bool (Lib.hasPrefix t.data.toList [34])) ∧ _) at hp
  rw [h3] at hp
  have hi := fun W => idxA_any t (by omega) W
  rw [hx] at hi
  have n0 : decide ((n : Int) < 0) = false := decide_eq_false (by omega)
  have n1 : (n : Int) ≤ (t.size : Int) := by omega
  have n2 : (0 : Int) ≤ (n : Int) := by omega
  have hls : lo.size ≤ 100000 := by rw [← hlo]; simp; omega
  have hrs : rest.size ≤ 100000 := by rw [← hre]; simp; omega
  have hat := fun W => atoms_any lo (by omega) W
  rw [h5] at hat
  have cp3 := fun W => Tryz.strings_CutPrefix rest ⟨#[62]⟩ W
  change ∀ W, Calls _ _ _ W (fun e w' => e = .returned (.tuple #[.string ⟨(Lib.trimPrefix rest.data.toList [62]).toArray⟩, .bool (Lib.hasPrefix rest.data.toList [62])]) ∧ _) at cp3
  rw [h6] at cp3
  have hcu := fun W (hW : Lv W) => cut_any rest ⟨#[62]⟩ W hW (by omega)
  change ∀ W, Lv W → Calls _ _ _ W (fun e w' => e = .returned (.tuple #[.string ⟨(Lib.cut rest.data.toList [62]).1.toArray⟩, .string ⟨(Lib.cut rest.data.toList [62]).2.1.toArray⟩, .bool (Lib.cut rest.data.toList [62]).2.2]) ∧ _) at hcu
  rw [c1, c2, c3] at hcu
  have cp4 := fun W => Tryz.strings_CutPrefix a ⟨#[64]⟩ W
  change ∀ W, Calls _ _ _ W (fun e w' => e = .returned (.tuple #[.string ⟨(Lib.trimPrefix a.data.toList [64]).toArray⟩, .bool (Lib.hasPrefix a.data.toList [64])]) ∧ _) at cp4
  rw [g1, g2] at cp4
  have hdm := fun W => domain_any a2 W
  rw [g3, g4] at hdm
  have hsh := fun W => shaped_any a2 (by omega) W
  rw [g5] at hsh
  clear h1 h2 h3 ht hx hts h5 hls hrs h6 c1 c2 c3 g1 g2 g3 g4 g5 has2
  have hno := fun W => none_any W
  obtain ⟨H, hH⟩ : ∃ H, w.heap.size = H := ⟨_, rfl⟩
  have HLv : Aside (∀ W, Below H w W → Lv W) := ⟨fun W h => hl.next (hH ▸ h)⟩
  have SS : Aside (Blk (w.alloc (.cells #[.string ⟨#[]⟩, .string ⟨#[]⟩] 23)) H #[.string ⟨#[]⟩, .string ⟨#[]⟩] 23 ∧ Below H w (w.alloc (.cells #[.string ⟨#[]⟩, .string ⟨#[]⟩] 23))) := ⟨hH ▸ Blk.new (w := w) #[.string ⟨#[]⟩, .string ⟨#[]⟩] 23, (Below.refl _ w).alloc (by omega) _⟩
  clear hl
  rw [hH]
  go_enter Tryz.func12, Tryz.ntmps12
  go_wp2_with (first | (go_at_call 31; (first | (with_reducible refine (cp1 _).mono ?_) | (with_reducible refine (cp2 _).mono ?_) | (with_reducible refine (cp3 _).mono ?_) | (with_reducible refine (cp4 _).mono ?_)); rintro e w_ ⟨rfl, hw_⟩; have hw2_ := hw_.symm; subst hw2_; clear hw_) | (go_at_call 32; (with_reducible refine (hp _).mono ?_); rintro e w_ ⟨rfl, hw_⟩; have hw2_ := hw_.symm; subst hw2_; clear hw_) | (go_at_call 34; (with_reducible refine (hi _).mono ?_); rintro e W_ ⟨rfl, hb_⟩; replace SS := Aside.mk (show Blk _ H _ _ ∧ Below H _ _ from ⟨SS.out.1.below hb_, SS.out.2.trans (hb_.mono (by have := SS.out.2.size; omega))⟩); clear hb_) | (go_at_call 35; (with_reducible refine (hat _).mono ?_); rintro e W_ ⟨rfl, hb_⟩; replace SS := Aside.mk (show Blk _ H _ _ ∧ Below H _ _ from ⟨SS.out.1.below hb_, SS.out.2.trans (hb_.mono (by have := SS.out.2.size; omega))⟩); clear hb_) | (go_at_call 24; (with_reducible refine (hcu _ (HLv.out _ SS.out.2)).mono ?_); rintro e W_ ⟨rfl, hb_⟩; replace SS := Aside.mk (show Blk _ H _ _ ∧ Below H _ _ from ⟨SS.out.1.below hb_, SS.out.2.trans (hb_.mono (by have := SS.out.2.size; omega))⟩); clear hb_) | (go_at_call 37; (with_reducible refine (hdm _).mono ?_); rintro e W_ ⟨rfl, hb_⟩; replace SS := Aside.mk (show Blk _ H _ _ ∧ Below H _ _ from ⟨SS.out.1.below hb_, SS.out.2.trans (hb_.mono (by have := SS.out.2.size; omega))⟩); clear hb_) | (go_at_call 38; (with_reducible refine (hsh _).mono ?_); rintro e W_ ⟨rfl, hb_⟩; replace SS := Aside.mk (show Blk _ H _ _ ∧ Below H _ _ from ⟨SS.out.1.below hb_, SS.out.2.trans (hb_.mono (by have := SS.out.2.size; omega))⟩); clear hb_) | (go_at_call 30; (with_reducible refine (hno _).mono ?_); rintro e W_ ⟨rfl, hb_⟩; replace SS := Aside.mk (show Blk _ H _ _ ∧ Below H _ _ from ⟨SS.out.1.below hb_, SS.out.2.trans (hb_.mono (by have := SS.out.2.size; omega))⟩); clear hb_) | ((with_reducible refine at_store (p := 2) rfl ?_); refine store_blk rfl 23 _ _ (by rfl) H (by rfl) #[.string ⟨#[]⟩, .string ⟨#[]⟩] #[.string ⟨#[]⟩, .string ⟨#[]⟩] 23 SS.out.1 (by rfl) (by rfl) (by kernel_rfl) (by simp [Value.oneCell']) ?_; intro w5 hb5 hc5; have B5 := Aside.mk hb5; have L5 := Aside.mk (show Below H w w5 from hc5.below SS.out.2 (fun k hk => Nat.le_of_eq hk.symm) (by have := SS.out.2.size; omega)); clear hb5 hc5))
  refine region_class (C := (fun w' => Blk w' H #[.string ⟨#[]⟩, .string ⟨#[]⟩] 23 ∧ Below H w w')) (by kernel_rfl) (by kernel_rfl) ⟨SS.out.1.below (pw_below_drewN (Below.refl _ _) 1), pw_below_drewN SS.out.2 1⟩ ?_
  refine q_run ?_ ?_ ?_ ?_
  · kernel_rfl
  rotate_left
  · intro w_ hw_
    skip
    first | (go_simp; done) | (go_simp; with_reducible rfl) | (go_simp; rw [if_neg (by first | omega | (simp; omega))])
  try simp only [Act.put, List.setIfInBounds_toArray, List.set_cons_zero, List.set_cons_succ]
  refine q_run ?_ ?_ ?_ ?_
  · kernel_rfl
  rotate_left
  · intro w_ hw_
    skip
    first | (go_simp; done) | (go_simp; with_reducible rfl) | (go_simp; rw [if_neg (by first | omega | (simp; omega))])
  try simp only [Act.put, List.setIfInBounds_toArray, List.set_cons_zero, List.set_cons_succ]
  refine q_run ?_ ?_ ?_ ?_
  · kernel_rfl
  rotate_left
  · intro w_ hw_
    skip
    first | (go_simp; done) | (go_simp; with_reducible rfl) | (go_simp; rw [if_neg (by first | omega | (simp; omega))])
  try simp only [Act.put, List.setIfInBounds_toArray, List.set_cons_zero, List.set_cons_succ]
  refine q_run ?_ ?_ ?_ ?_
  · kernel_rfl
  rotate_left
  · intro w_ hw_
    skip
    first | (go_simp; done) | (go_simp; with_reducible rfl) | (go_simp; rw [if_neg (by first | omega | (simp; omega))])
  try simp only [Act.put, List.setIfInBounds_toArray, List.set_cons_zero, List.set_cons_succ]
  refine q_run ?_ ?_ ?_ ?_
  · kernel_rfl
  rotate_left
  · intro w_ hw_
    skip
    first | (go_simp; done) | (go_simp; with_reducible rfl) | (go_simp; rw [if_neg (by first | omega | (simp; omega))])
  try simp only [Act.put, List.setIfInBounds_toArray, List.set_cons_zero, List.set_cons_succ]
  refine q_run ?_ ?_ ?_ ?_
  · kernel_rfl
  rotate_left
  · intro w_ hw_
    skip
    first | (go_simp; done) | (go_simp; with_reducible rfl) | (go_simp; rw [if_neg (by first | omega | (simp; omega))])
  try simp only [Act.put, List.setIfInBounds_toArray, List.set_cons_zero, List.set_cons_succ]
  refine q_run ?_ ?_ ?_ ?_
  · kernel_rfl
  rotate_left
  · intro w_ hw_
    skip
    first | (go_simp; done) | (go_simp; with_reducible rfl) | (go_simp; rw [if_neg (by first | omega | (simp; omega))])
  try simp only [Act.put, List.setIfInBounds_toArray, List.set_cons_zero, List.set_cons_succ]
  refine q_run ?_ ?_ ?_ ?_
  · kernel_rfl
  rotate_left
  · intro w_ hw_
    skip
    first | (go_simp; done) | (go_simp; with_reducible rfl) | (go_simp; rw [if_neg (by first | omega | (simp; omega))])
  try simp only [Act.put, List.setIfInBounds_toArray, List.set_cons_zero, List.set_cons_succ]
  refine q_nil ?_
  intro W_ hC_
  replace SS := Aside.mk hC_
  clear hC_
  go_wp2_with (first | (go_at_call 31; (first | (with_reducible refine (cp1 _).mono ?_) | (with_reducible refine (cp2 _).mono ?_) | (with_reducible refine (cp3 _).mono ?_) | (with_reducible refine (cp4 _).mono ?_)); rintro e w_ ⟨rfl, hw_⟩; have hw2_ := hw_.symm; subst hw2_; clear hw_) | (go_at_call 32; (with_reducible refine (hp _).mono ?_); rintro e w_ ⟨rfl, hw_⟩; have hw2_ := hw_.symm; subst hw2_; clear hw_) | (go_at_call 34; (with_reducible refine (hi _).mono ?_); rintro e W_ ⟨rfl, hb_⟩; replace SS := Aside.mk (show Blk _ H _ _ ∧ Below H _ _ from ⟨SS.out.1.below hb_, SS.out.2.trans (hb_.mono (by have := SS.out.2.size; omega))⟩); clear hb_) | (go_at_call 35; (with_reducible refine (hat _).mono ?_); rintro e W_ ⟨rfl, hb_⟩; replace SS := Aside.mk (show Blk _ H _ _ ∧ Below H _ _ from ⟨SS.out.1.below hb_, SS.out.2.trans (hb_.mono (by have := SS.out.2.size; omega))⟩); clear hb_) | (go_at_call 24; (with_reducible refine (hcu _ (HLv.out _ SS.out.2)).mono ?_); rintro e W_ ⟨rfl, hb_⟩; replace SS := Aside.mk (show Blk _ H _ _ ∧ Below H _ _ from ⟨SS.out.1.below hb_, SS.out.2.trans (hb_.mono (by have := SS.out.2.size; omega))⟩); clear hb_) | (go_at_call 37; (with_reducible refine (hdm _).mono ?_); rintro e W_ ⟨rfl, hb_⟩; replace SS := Aside.mk (show Blk _ H _ _ ∧ Below H _ _ from ⟨SS.out.1.below hb_, SS.out.2.trans (hb_.mono (by have := SS.out.2.size; omega))⟩); clear hb_) | (go_at_call 38; (with_reducible refine (hsh _).mono ?_); rintro e W_ ⟨rfl, hb_⟩; replace SS := Aside.mk (show Blk _ H _ _ ∧ Below H _ _ from ⟨SS.out.1.below hb_, SS.out.2.trans (hb_.mono (by have := SS.out.2.size; omega))⟩); clear hb_) | (go_at_call 30; (with_reducible refine (hno _).mono ?_); rintro e W_ ⟨rfl, hb_⟩; replace SS := Aside.mk (show Blk _ H _ _ ∧ Below H _ _ from ⟨SS.out.1.below hb_, SS.out.2.trans (hb_.mono (by have := SS.out.2.size; omega))⟩); clear hb_) | ((with_reducible refine at_store (p := 2) rfl ?_); refine store_blk rfl 23 _ _ (by rfl) H (by rfl) #[.string ⟨#[]⟩, .string ⟨#[]⟩] #[.string ⟨#[]⟩, .string ⟨#[]⟩] 23 SS.out.1 (by rfl) (by rfl) (by kernel_rfl) (by simp [Value.oneCell']) ?_; intro w5 hb5 hc5; have B5 := Aside.mk hb5; have L5 := Aside.mk (show Below H w w5 from hc5.below SS.out.2 (fun k hk => Nat.le_of_eq hk.symm) (by have := SS.out.2.size; omega)); clear hb5 hc5))
  refine bodyPost_ret (results_blk3 (by rfl) _ _ H (by rfl) #[.string ⟨#[]⟩, .string ⟨#[]⟩] 23 _ B5.out Tryz.underlying23 rfl (by kernel_rfl)) rfl ⟨?_, L5.out⟩
  rfl
set_option maxHeartbeats 8000000 in
theorem pathParse_t4 (s : ByteArray) (hs : s.size ≤ 100000) (t : ByteArray) (h1 : Lib.hasPrefix s.data.toList [60] = true) (ht : (⟨(Lib.trimPrefix s.data.toList [60]).toArray⟩ : ByteArray) = t) (h2 : Lib.hasPrefix t.data.toList [62] = false) (hts : t.size ≤ 100000) (h3 : Lib.hasPrefix t.data.toList [34] = false) (n : Nat) (hx : Lib.indexAny t.data.toList [64, 62] = (n : Int)) (hn : n < t.size) (lo rest : ByteArray) (hlo : t.extract 0 n = lo) (hre : t.extract n t.size = rest) (h5 : Pt.atoms lo.data.toList = true) (h6 : Lib.hasPrefix rest.data.toList [62] = false) (a b : ByteArray) (c1 : (⟨(Lib.cut rest.data.toList [62]).1.toArray⟩ : ByteArray) = a) (c2 : (⟨(Lib.cut rest.data.toList [62]).2.1.toArray⟩ : ByteArray) = b) (c3 : (Lib.cut rest.data.toList [62]).2.2 = true) (a2 : ByteArray) (g1 : (⟨(Lib.trimPrefix a.data.toList [64]).toArray⟩ : ByteArray) = a2) (g2 : Lib.hasPrefix a.data.toList [64] = true) (has2 : a2.size ≤ 100000) (d : ByteArray) (g3 : (⟨(Pt.domain a2.data.toList).1.toArray⟩ : ByteArray) = d) (g4 : (Pt.domain a2.data.toList).2 = 3) (g5 : Pt.shaped a2.data.toList = false) (w : World) (hl : Lv w) : Calls Tryz.prog 12 #[.string s] w fun e w' => e = .returned (.tuple #[.agg #[.string ⟨#[]⟩, .string ⟨#[]⟩], .string ⟨#[]⟩, .int .i64 2]) ∧ Below w.heap.size w w' := by
  have cp1 := fun W => Tryz.strings_CutPrefix s ⟨#[60]⟩ W
  change ∀ W, Calls _ _ _ W (fun e w' => e = .returned (.tuple #[.string ⟨(Lib.trimPrefix s.data.toList [60]).toArray⟩, .bool (Lib.hasPrefix s.data.toList [60])]) ∧ _) at cp1
  rw [h1, ht] at cp1
  have cp2 := fun W => Tryz.strings_CutPrefix t ⟨#[62]⟩ W
  change ∀ W, Calls _ _ _ W (fun e w' => e = .returned (.tuple #[.string ⟨(Lib.trimPrefix t.data.toList [62]).toArray⟩, .bool (Lib.hasPrefix t.data.toList [62])]) ∧ _) at cp2
  rw [h2] at cp2
  have hp := fun W => Tryz.strings_HasPrefix t ⟨#[34]⟩ W
  change ∀ W, Calls _ _ _ W (fun e w' => e = .returned (.bool (Lib.hasPrefix t.data.toList [34])) ∧ _) at hp
  rw [h3] at hp
  have hi := fun W => idxA_any t (by omega) W
  rw [hx] at hi
  have n0 : decide ((n : Int) < 0) = false := decide_eq_false (by omega)
  have n1 : (n : Int) ≤ (t.size : Int) := by omega
  have n2 : (0 : Int) ≤ (n : Int) := by omega
  have hls : lo.size ≤ 100000 := by rw [← hlo]; simp; omega
  have hrs : rest.size ≤ 100000 := by rw [← hre]; simp; omega
  have hat := fun W => atoms_any lo (by omega) W
  rw [h5] at hat
  have cp3 := fun W => Tryz.strings_CutPrefix rest ⟨#[62]⟩ W
  change ∀ W, Calls _ _ _ W (fun e w' => e = .returned (.tuple #[.string ⟨(Lib.trimPrefix rest.data.toList [62]).toArray⟩, .bool (Lib.hasPrefix rest.data.toList [62])]) ∧ _) at cp3
  rw [h6] at cp3
  have hcu := fun W (hW : Lv W) => cut_any rest ⟨#[62]⟩ W hW (by omega)
  change ∀ W, Lv W → Calls _ _ _ W (fun e w' => e = .returned (.tuple #[.string ⟨(Lib.cut rest.data.toList [62]).1.toArray⟩, .string ⟨(Lib.cut rest.data.toList [62]).2.1.toArray⟩, .bool (Lib.cut rest.data.toList [62]).2.2]) ∧ _) at hcu
  rw [c1, c2, c3] at hcu
  have cp4 := fun W => Tryz.strings_CutPrefix a ⟨#[64]⟩ W
  change ∀ W, Calls _ _ _ W (fun e w' => e = .returned (.tuple #[.string ⟨(Lib.trimPrefix a.data.toList [64]).toArray⟩, .bool (Lib.hasPrefix a.data.toList [64])]) ∧ _) at cp4
  rw [g1, g2] at cp4
  have hdm := fun W => domain_any a2 W
  rw [g3, g4] at hdm
  have hsh := fun W => shaped_any a2 (by omega) W
  rw [g5] at hsh
  clear h1 h2 h3 ht hx hts h5 hls hrs h6 c1 c2 c3 g1 g2 g3 g4 g5 has2
  have hno := fun W => none_any W
  obtain ⟨H, hH⟩ : ∃ H, w.heap.size = H := ⟨_, rfl⟩
  have HLv : Aside (∀ W, Below H w W → Lv W) := ⟨fun W h => hl.next (hH ▸ h)⟩
  have SS : Aside (Blk (w.alloc (.cells #[.string ⟨#[]⟩, .string ⟨#[]⟩] 23)) H #[.string ⟨#[]⟩, .string ⟨#[]⟩] 23 ∧ Below H w (w.alloc (.cells #[.string ⟨#[]⟩, .string ⟨#[]⟩] 23))) := ⟨hH ▸ Blk.new (w := w) #[.string ⟨#[]⟩, .string ⟨#[]⟩] 23, (Below.refl _ w).alloc (by omega) _⟩
  clear hl
  rw [hH]
  go_enter Tryz.func12, Tryz.ntmps12
  go_wp2_with (first | (go_at_call 31; (first | (with_reducible refine (cp1 _).mono ?_) | (with_reducible refine (cp2 _).mono ?_) | (with_reducible refine (cp3 _).mono ?_) | (with_reducible refine (cp4 _).mono ?_)); rintro e w_ ⟨rfl, hw_⟩; have hw2_ := hw_.symm; subst hw2_; clear hw_) | (go_at_call 32; (with_reducible refine (hp _).mono ?_); rintro e w_ ⟨rfl, hw_⟩; have hw2_ := hw_.symm; subst hw2_; clear hw_) | (go_at_call 34; (with_reducible refine (hi _).mono ?_); rintro e W_ ⟨rfl, hb_⟩; replace SS := Aside.mk (show Blk _ H _ _ ∧ Below H _ _ from ⟨SS.out.1.below hb_, SS.out.2.trans (hb_.mono (by have := SS.out.2.size; omega))⟩); clear hb_) | (go_at_call 35; (with_reducible refine (hat _).mono ?_); rintro e W_ ⟨rfl, hb_⟩; replace SS := Aside.mk (show Blk _ H _ _ ∧ Below H _ _ from ⟨SS.out.1.below hb_, SS.out.2.trans (hb_.mono (by have := SS.out.2.size; omega))⟩); clear hb_) | (go_at_call 24; (with_reducible refine (hcu _ (HLv.out _ SS.out.2)).mono ?_); rintro e W_ ⟨rfl, hb_⟩; replace SS := Aside.mk (show Blk _ H _ _ ∧ Below H _ _ from ⟨SS.out.1.below hb_, SS.out.2.trans (hb_.mono (by have := SS.out.2.size; omega))⟩); clear hb_) | (go_at_call 37; (with_reducible refine (hdm _).mono ?_); rintro e W_ ⟨rfl, hb_⟩; replace SS := Aside.mk (show Blk _ H _ _ ∧ Below H _ _ from ⟨SS.out.1.below hb_, SS.out.2.trans (hb_.mono (by have := SS.out.2.size; omega))⟩); clear hb_) | (go_at_call 38; (with_reducible refine (hsh _).mono ?_); rintro e W_ ⟨rfl, hb_⟩; replace SS := Aside.mk (show Blk _ H _ _ ∧ Below H _ _ from ⟨SS.out.1.below hb_, SS.out.2.trans (hb_.mono (by have := SS.out.2.size; omega))⟩); clear hb_) | (go_at_call 30; (with_reducible refine (hno _).mono ?_); rintro e W_ ⟨rfl, hb_⟩; replace SS := Aside.mk (show Blk _ H _ _ ∧ Below H _ _ from ⟨SS.out.1.below hb_, SS.out.2.trans (hb_.mono (by have := SS.out.2.size; omega))⟩); clear hb_) | ((with_reducible refine at_store (p := 2) rfl ?_); refine store_blk rfl 23 _ _ (by rfl) H (by rfl) #[.string ⟨#[]⟩, .string ⟨#[]⟩] #[.string ⟨#[]⟩, .string ⟨#[]⟩] 23 SS.out.1 (by rfl) (by rfl) (by kernel_rfl) (by simp [Value.oneCell']) ?_; intro w5 hb5 hc5; have B5 := Aside.mk hb5; have L5 := Aside.mk (show Below H w w5 from hc5.below SS.out.2 (fun k hk => Nat.le_of_eq hk.symm) (by have := SS.out.2.size; omega)); clear hb5 hc5))
  refine region_class (C := (fun w' => Blk w' H #[.string ⟨#[]⟩, .string ⟨#[]⟩] 23 ∧ Below H w w')) (by kernel_rfl) (by kernel_rfl) ⟨SS.out.1.below (pw_below_drewN (Below.refl _ _) 1), pw_below_drewN SS.out.2 1⟩ ?_
  refine q_run ?_ ?_ ?_ ?_
  · kernel_rfl
  rotate_left
  · intro w_ hw_
    skip
    first | (go_simp; done) | (go_simp; with_reducible rfl) | (go_simp; rw [if_neg (by first | omega | (simp; omega))])
  try simp only [Act.put, List.setIfInBounds_toArray, List.set_cons_zero, List.set_cons_succ]
  refine q_run ?_ ?_ ?_ ?_
  · kernel_rfl
  rotate_left
  · intro w_ hw_
    skip
    first | (go_simp; done) | (go_simp; with_reducible rfl) | (go_simp; rw [if_neg (by first | omega | (simp; omega))])
  try simp only [Act.put, List.setIfInBounds_toArray, List.set_cons_zero, List.set_cons_succ]
  refine q_run ?_ ?_ ?_ ?_
  · kernel_rfl
  rotate_left
  · intro w_ hw_
    skip
    first | (go_simp; done) | (go_simp; with_reducible rfl) | (go_simp; rw [if_neg (by first | omega | (simp; omega))])
  try simp only [Act.put, List.setIfInBounds_toArray, List.set_cons_zero, List.set_cons_succ]
  refine q_run ?_ ?_ ?_ ?_
  · kernel_rfl
  rotate_left
  · intro w_ hw_
    skip
    first | (go_simp; done) | (go_simp; with_reducible rfl) | (go_simp; rw [if_neg (by first | omega | (simp; omega))])
  try simp only [Act.put, List.setIfInBounds_toArray, List.set_cons_zero, List.set_cons_succ]
  refine q_run ?_ ?_ ?_ ?_
  · kernel_rfl
  rotate_left
  · intro w_ hw_
    skip
    first | (go_simp; done) | (go_simp; with_reducible rfl) | (go_simp; rw [if_neg (by first | omega | (simp; omega))])
  try simp only [Act.put, List.setIfInBounds_toArray, List.set_cons_zero, List.set_cons_succ]
  refine q_run ?_ ?_ ?_ ?_
  · kernel_rfl
  rotate_left
  · intro w_ hw_
    skip
    first | (go_simp; done) | (go_simp; with_reducible rfl) | (go_simp; rw [if_neg (by first | omega | (simp; omega))])
  try simp only [Act.put, List.setIfInBounds_toArray, List.set_cons_zero, List.set_cons_succ]
  refine q_run ?_ ?_ ?_ ?_
  · kernel_rfl
  rotate_left
  · intro w_ hw_
    skip
    first | (go_simp; done) | (go_simp; with_reducible rfl) | (go_simp; rw [if_neg (by first | omega | (simp; omega))])
  try simp only [Act.put, List.setIfInBounds_toArray, List.set_cons_zero, List.set_cons_succ]
  refine q_run ?_ ?_ ?_ ?_
  · kernel_rfl
  rotate_left
  · intro w_ hw_
    skip
    first | (go_simp; done) | (go_simp; with_reducible rfl) | (go_simp; rw [if_neg (by first | omega | (simp; omega))])
  try simp only [Act.put, List.setIfInBounds_toArray, List.set_cons_zero, List.set_cons_succ]
  refine q_nil ?_
  intro W_ hC_
  replace SS := Aside.mk hC_
  clear hC_
  go_wp2_with (first | (go_at_call 31; (first | (with_reducible refine (cp1 _).mono ?_) | (with_reducible refine (cp2 _).mono ?_) | (with_reducible refine (cp3 _).mono ?_) | (with_reducible refine (cp4 _).mono ?_)); rintro e w_ ⟨rfl, hw_⟩; have hw2_ := hw_.symm; subst hw2_; clear hw_) | (go_at_call 32; (with_reducible refine (hp _).mono ?_); rintro e w_ ⟨rfl, hw_⟩; have hw2_ := hw_.symm; subst hw2_; clear hw_) | (go_at_call 34; (with_reducible refine (hi _).mono ?_); rintro e W_ ⟨rfl, hb_⟩; replace SS := Aside.mk (show Blk _ H _ _ ∧ Below H _ _ from ⟨SS.out.1.below hb_, SS.out.2.trans (hb_.mono (by have := SS.out.2.size; omega))⟩); clear hb_) | (go_at_call 35; (with_reducible refine (hat _).mono ?_); rintro e W_ ⟨rfl, hb_⟩; replace SS := Aside.mk (show Blk _ H _ _ ∧ Below H _ _ from ⟨SS.out.1.below hb_, SS.out.2.trans (hb_.mono (by have := SS.out.2.size; omega))⟩); clear hb_) | (go_at_call 24; (with_reducible refine (hcu _ (HLv.out _ SS.out.2)).mono ?_); rintro e W_ ⟨rfl, hb_⟩; replace SS := Aside.mk (show Blk _ H _ _ ∧ Below H _ _ from ⟨SS.out.1.below hb_, SS.out.2.trans (hb_.mono (by have := SS.out.2.size; omega))⟩); clear hb_) | (go_at_call 37; (with_reducible refine (hdm _).mono ?_); rintro e W_ ⟨rfl, hb_⟩; replace SS := Aside.mk (show Blk _ H _ _ ∧ Below H _ _ from ⟨SS.out.1.below hb_, SS.out.2.trans (hb_.mono (by have := SS.out.2.size; omega))⟩); clear hb_) | (go_at_call 38; (with_reducible refine (hsh _).mono ?_); rintro e W_ ⟨rfl, hb_⟩; replace SS := Aside.mk (show Blk _ H _ _ ∧ Below H _ _ from ⟨SS.out.1.below hb_, SS.out.2.trans (hb_.mono (by have := SS.out.2.size; omega))⟩); clear hb_) | (go_at_call 30; (with_reducible refine (hno _).mono ?_); rintro e W_ ⟨rfl, hb_⟩; replace SS := Aside.mk (show Blk _ H _ _ ∧ Below H _ _ from ⟨SS.out.1.below hb_, SS.out.2.trans (hb_.mono (by have := SS.out.2.size; omega))⟩); clear hb_) | ((with_reducible refine at_store (p := 2) rfl ?_); refine store_blk rfl 23 _ _ (by rfl) H (by rfl) #[.string ⟨#[]⟩, .string ⟨#[]⟩] #[.string ⟨#[]⟩, .string ⟨#[]⟩] 23 SS.out.1 (by rfl) (by rfl) (by kernel_rfl) (by simp [Value.oneCell']) ?_; intro w5 hb5 hc5; have B5 := Aside.mk hb5; have L5 := Aside.mk (show Below H w w5 from hc5.below SS.out.2 (fun k hk => Nat.le_of_eq hk.symm) (by have := SS.out.2.size; omega)); clear hb5 hc5))
  refine bodyPost_ret (results_blk3 (by rfl) _ _ H (by rfl) #[.string ⟨#[]⟩, .string ⟨#[]⟩] 23 _ B5.out Tryz.underlying23 rfl (by kernel_rfl)) rfl ⟨?_, L5.out⟩
  rfl
set_option maxHeartbeats 8000000 in
theorem pathParse_t5 (s : ByteArray) (hs : s.size ≤ 100000) (t : ByteArray) (h1 : Lib.hasPrefix s.data.toList [60] = true) (ht : (⟨(Lib.trimPrefix s.data.toList [60]).toArray⟩ : ByteArray) = t) (h2 : Lib.hasPrefix t.data.toList [62] = false) (hts : t.size ≤ 100000) (h3 : Lib.hasPrefix t.data.toList [34] = false) (n : Nat) (hx : Lib.indexAny t.data.toList [64, 62] = (n : Int)) (hn : n < t.size) (lo rest : ByteArray) (hlo : t.extract 0 n = lo) (hre : t.extract n t.size = rest) (h5 : Pt.atoms lo.data.toList = true) (h6 : Lib.hasPrefix rest.data.toList [62] = false) (a b : ByteArray) (c1 : (⟨(Lib.cut rest.data.toList [62]).1.toArray⟩ : ByteArray) = a) (c2 : (⟨(Lib.cut rest.data.toList [62]).2.1.toArray⟩ : ByteArray) = b) (c3 : (Lib.cut rest.data.toList [62]).2.2 = true) (a2 : ByteArray) (g1 : (⟨(Lib.trimPrefix a.data.toList [64]).toArray⟩ : ByteArray) = a2) (g2 : Lib.hasPrefix a.data.toList [64] = true) (has2 : a2.size ≤ 100000) (d : ByteArray) (ee : Int) (g3 : (⟨(Pt.domain a2.data.toList).1.toArray⟩ : ByteArray) = d) (g4 : (Pt.domain a2.data.toList).2 = ee) (g5 : (ee == 3) = false) (g6 : (ee == 0) = false) (g7 : (ee != 0) = true) (w : World) (hl : Lv w) : Calls Tryz.prog 12 #[.string s] w fun e w' => e = .returned (.tuple #[.agg #[.string ⟨#[]⟩, .string ⟨#[]⟩], .string ⟨#[]⟩, .int .i64 2]) ∧ Below w.heap.size w w' := by
  have cp1 := fun W => Tryz.strings_CutPrefix s ⟨#[60]⟩ W
  change ∀ W, Calls _ _ _ W (fun e w' => e = .returned (.tuple #[.string ⟨(Lib.trimPrefix s.data.toList [60]).toArray⟩, .bool (Lib.hasPrefix s.data.toList [60])]) ∧ _) at cp1
  rw [h1, ht] at cp1
  have cp2 := fun W => Tryz.strings_CutPrefix t ⟨#[62]⟩ W
  change ∀ W, Calls _ _ _ W (fun e w' => e = .returned (.tuple #[.string ⟨(Lib.trimPrefix t.data.toList [62]).toArray⟩, .bool (Lib.hasPrefix t.data.toList [62])]) ∧ _) at cp2
  rw [h2] at cp2
  have hp := fun W => Tryz.strings_HasPrefix t ⟨#[34]⟩ W
  change ∀ W, Calls _ _ _ W (fun e w' => e = .returned (.bool (Lib.hasPrefix t.data.toList [34])) ∧ _) at hp
  rw [h3] at hp
  have hi := fun W => idxA_any t (by omega) W
  rw [hx] at hi
  have n0 : decide ((n : Int) < 0) = false := decide_eq_false (by omega)
  have n1 : (n : Int) ≤ (t.size : Int) := by omega
  have n2 : (0 : Int) ≤ (n : Int) := by omega
  have hls : lo.size ≤ 100000 := by rw [← hlo]; simp; omega
  have hrs : rest.size ≤ 100000 := by rw [← hre]; simp; omega
  have hat := fun W => atoms_any lo (by omega) W
  rw [h5] at hat
  have cp3 := fun W => Tryz.strings_CutPrefix rest ⟨#[62]⟩ W
  change ∀ W, Calls _ _ _ W (fun e w' => e = .returned (.tuple #[.string ⟨(Lib.trimPrefix rest.data.toList [62]).toArray⟩, .bool (Lib.hasPrefix rest.data.toList [62])]) ∧ _) at cp3
  rw [h6] at cp3
  have hcu := fun W (hW : Lv W) => cut_any rest ⟨#[62]⟩ W hW (by omega)
  change ∀ W, Lv W → Calls _ _ _ W (fun e w' => e = .returned (.tuple #[.string ⟨(Lib.cut rest.data.toList [62]).1.toArray⟩, .string ⟨(Lib.cut rest.data.toList [62]).2.1.toArray⟩, .bool (Lib.cut rest.data.toList [62]).2.2]) ∧ _) at hcu
  rw [c1, c2, c3] at hcu
  have cp4 := fun W => Tryz.strings_CutPrefix a ⟨#[64]⟩ W
  change ∀ W, Calls _ _ _ W (fun e w' => e = .returned (.tuple #[.string ⟨(Lib.trimPrefix a.data.toList [64]).toArray⟩, .bool (Lib.hasPrefix a.data.toList [64])]) ∧ _) at cp4
  rw [g1, g2] at cp4
  have hdm := fun W => domain_any a2 W
  rw [g3, g4] at hdm
  clear h1 h2 h3 ht hx hts h5 hls hrs h6 c1 c2 c3 g1 g2 g3 g4 has2
  have hno := fun W => none_any W
  obtain ⟨H, hH⟩ : ∃ H, w.heap.size = H := ⟨_, rfl⟩
  have HLv : Aside (∀ W, Below H w W → Lv W) := ⟨fun W h => hl.next (hH ▸ h)⟩
  have SS : Aside (Blk (w.alloc (.cells #[.string ⟨#[]⟩, .string ⟨#[]⟩] 23)) H #[.string ⟨#[]⟩, .string ⟨#[]⟩] 23 ∧ Below H w (w.alloc (.cells #[.string ⟨#[]⟩, .string ⟨#[]⟩] 23))) := ⟨hH ▸ Blk.new (w := w) #[.string ⟨#[]⟩, .string ⟨#[]⟩] 23, (Below.refl _ w).alloc (by omega) _⟩
  clear hl
  rw [hH]
  go_enter Tryz.func12, Tryz.ntmps12
  go_wp2_with (first | (go_at_call 31; (first | (with_reducible refine (cp1 _).mono ?_) | (with_reducible refine (cp2 _).mono ?_) | (with_reducible refine (cp3 _).mono ?_) | (with_reducible refine (cp4 _).mono ?_)); rintro e w_ ⟨rfl, hw_⟩; have hw2_ := hw_.symm; subst hw2_; clear hw_) | (go_at_call 32; (with_reducible refine (hp _).mono ?_); rintro e w_ ⟨rfl, hw_⟩; have hw2_ := hw_.symm; subst hw2_; clear hw_) | (go_at_call 34; (with_reducible refine (hi _).mono ?_); rintro e W_ ⟨rfl, hb_⟩; replace SS := Aside.mk (show Blk _ H _ _ ∧ Below H _ _ from ⟨SS.out.1.below hb_, SS.out.2.trans (hb_.mono (by have := SS.out.2.size; omega))⟩); clear hb_) | (go_at_call 35; (with_reducible refine (hat _).mono ?_); rintro e W_ ⟨rfl, hb_⟩; replace SS := Aside.mk (show Blk _ H _ _ ∧ Below H _ _ from ⟨SS.out.1.below hb_, SS.out.2.trans (hb_.mono (by have := SS.out.2.size; omega))⟩); clear hb_) | (go_at_call 24; (with_reducible refine (hcu _ (HLv.out _ SS.out.2)).mono ?_); rintro e W_ ⟨rfl, hb_⟩; replace SS := Aside.mk (show Blk _ H _ _ ∧ Below H _ _ from ⟨SS.out.1.below hb_, SS.out.2.trans (hb_.mono (by have := SS.out.2.size; omega))⟩); clear hb_) | (go_at_call 37; (with_reducible refine (hdm _).mono ?_); rintro e W_ ⟨rfl, hb_⟩; replace SS := Aside.mk (show Blk _ H _ _ ∧ Below H _ _ from ⟨SS.out.1.below hb_, SS.out.2.trans (hb_.mono (by have := SS.out.2.size; omega))⟩); clear hb_) | (go_at_call 30; (with_reducible refine (hno _).mono ?_); rintro e W_ ⟨rfl, hb_⟩; replace SS := Aside.mk (show Blk _ H _ _ ∧ Below H _ _ from ⟨SS.out.1.below hb_, SS.out.2.trans (hb_.mono (by have := SS.out.2.size; omega))⟩); clear hb_) | ((with_reducible refine at_store (p := 2) rfl ?_); refine store_blk rfl 23 _ _ (by rfl) H (by rfl) #[.string ⟨#[]⟩, .string ⟨#[]⟩] #[.string ⟨#[]⟩, .string ⟨#[]⟩] 23 SS.out.1 (by rfl) (by rfl) (by kernel_rfl) (by simp [Value.oneCell']) ?_; intro w5 hb5 hc5; have B5 := Aside.mk hb5; have L5 := Aside.mk (show Below H w w5 from hc5.below SS.out.2 (fun k hk => Nat.le_of_eq hk.symm) (by have := SS.out.2.size; omega)); clear hb5 hc5))
  refine region_class (C := (fun w' => Blk w' H #[.string ⟨#[]⟩, .string ⟨#[]⟩] 23 ∧ Below H w w')) (by kernel_rfl) (by kernel_rfl) ⟨SS.out.1.below (pw_below_drewN (Below.refl _ _) 1), pw_below_drewN SS.out.2 1⟩ ?_
  refine q_run ?_ ?_ ?_ ?_
  · kernel_rfl
  rotate_left
  · intro w_ hw_
    skip
    first | (go_simp; done) | (go_simp; with_reducible rfl) | (go_simp; rw [if_neg (by first | omega | (simp; omega))])
  try simp only [Act.put, List.setIfInBounds_toArray, List.set_cons_zero, List.set_cons_succ]
  refine q_run ?_ ?_ ?_ ?_
  · kernel_rfl
  rotate_left
  · intro w_ hw_
    skip
    first | (go_simp; done) | (go_simp; with_reducible rfl) | (go_simp; rw [if_neg (by first | omega | (simp; omega))])
  try simp only [Act.put, List.setIfInBounds_toArray, List.set_cons_zero, List.set_cons_succ]
  refine q_run ?_ ?_ ?_ ?_
  · kernel_rfl
  rotate_left
  · intro w_ hw_
    skip
    first | (go_simp; done) | (go_simp; with_reducible rfl) | (go_simp; rw [if_neg (by first | omega | (simp; omega))])
  try simp only [Act.put, List.setIfInBounds_toArray, List.set_cons_zero, List.set_cons_succ]
  refine q_run ?_ ?_ ?_ ?_
  · kernel_rfl
  rotate_left
  · intro w_ hw_
    skip
    first | (go_simp; done) | (go_simp; with_reducible rfl) | (go_simp; rw [if_neg (by first | omega | (simp; omega))])
  try simp only [Act.put, List.setIfInBounds_toArray, List.set_cons_zero, List.set_cons_succ]
  refine q_run ?_ ?_ ?_ ?_
  · kernel_rfl
  rotate_left
  · intro w_ hw_
    skip
    first | (go_simp; done) | (go_simp; with_reducible rfl) | (go_simp; rw [if_neg (by first | omega | (simp; omega))])
  try simp only [Act.put, List.setIfInBounds_toArray, List.set_cons_zero, List.set_cons_succ]
  refine q_run ?_ ?_ ?_ ?_
  · kernel_rfl
  rotate_left
  · intro w_ hw_
    skip
    first | (go_simp; done) | (go_simp; with_reducible rfl) | (go_simp; rw [if_neg (by first | omega | (simp; omega))])
  try simp only [Act.put, List.setIfInBounds_toArray, List.set_cons_zero, List.set_cons_succ]
  refine q_run ?_ ?_ ?_ ?_
  · kernel_rfl
  rotate_left
  · intro w_ hw_
    skip
    first | (go_simp; done) | (go_simp; with_reducible rfl) | (go_simp; rw [if_neg (by first | omega | (simp; omega))])
  try simp only [Act.put, List.setIfInBounds_toArray, List.set_cons_zero, List.set_cons_succ]
  refine q_run ?_ ?_ ?_ ?_
  · kernel_rfl
  rotate_left
  · intro w_ hw_
    skip
    first | (go_simp; done) | (go_simp; with_reducible rfl) | (go_simp; rw [if_neg (by first | omega | (simp; omega))])
  try simp only [Act.put, List.setIfInBounds_toArray, List.set_cons_zero, List.set_cons_succ]
  refine q_nil ?_
  intro W_ hC_
  replace SS := Aside.mk hC_
  clear hC_
  go_wp2_with (first | (go_at_call 31; (first | (with_reducible refine (cp1 _).mono ?_) | (with_reducible refine (cp2 _).mono ?_) | (with_reducible refine (cp3 _).mono ?_) | (with_reducible refine (cp4 _).mono ?_)); rintro e w_ ⟨rfl, hw_⟩; have hw2_ := hw_.symm; subst hw2_; clear hw_) | (go_at_call 32; (with_reducible refine (hp _).mono ?_); rintro e w_ ⟨rfl, hw_⟩; have hw2_ := hw_.symm; subst hw2_; clear hw_) | (go_at_call 34; (with_reducible refine (hi _).mono ?_); rintro e W_ ⟨rfl, hb_⟩; replace SS := Aside.mk (show Blk _ H _ _ ∧ Below H _ _ from ⟨SS.out.1.below hb_, SS.out.2.trans (hb_.mono (by have := SS.out.2.size; omega))⟩); clear hb_) | (go_at_call 35; (with_reducible refine (hat _).mono ?_); rintro e W_ ⟨rfl, hb_⟩; replace SS := Aside.mk (show Blk _ H _ _ ∧ Below H _ _ from ⟨SS.out.1.below hb_, SS.out.2.trans (hb_.mono (by have := SS.out.2.size; omega))⟩); clear hb_) | (go_at_call 24; (with_reducible refine (hcu _ (HLv.out _ SS.out.2)).mono ?_); rintro e W_ ⟨rfl, hb_⟩; replace SS := Aside.mk (show Blk _ H _ _ ∧ Below H _ _ from ⟨SS.out.1.below hb_, SS.out.2.trans (hb_.mono (by have := SS.out.2.size; omega))⟩); clear hb_) | (go_at_call 37; (with_reducible refine (hdm _).mono ?_); rintro e W_ ⟨rfl, hb_⟩; replace SS := Aside.mk (show Blk _ H _ _ ∧ Below H _ _ from ⟨SS.out.1.below hb_, SS.out.2.trans (hb_.mono (by have := SS.out.2.size; omega))⟩); clear hb_) | (go_at_call 30; (with_reducible refine (hno _).mono ?_); rintro e W_ ⟨rfl, hb_⟩; replace SS := Aside.mk (show Blk _ H _ _ ∧ Below H _ _ from ⟨SS.out.1.below hb_, SS.out.2.trans (hb_.mono (by have := SS.out.2.size; omega))⟩); clear hb_) | ((with_reducible refine at_store (p := 2) rfl ?_); refine store_blk rfl 23 _ _ (by rfl) H (by rfl) #[.string ⟨#[]⟩, .string ⟨#[]⟩] #[.string ⟨#[]⟩, .string ⟨#[]⟩] 23 SS.out.1 (by rfl) (by rfl) (by kernel_rfl) (by simp [Value.oneCell']) ?_; intro w5 hb5 hc5; have B5 := Aside.mk hb5; have L5 := Aside.mk (show Below H w w5 from hc5.below SS.out.2 (fun k hk => Nat.le_of_eq hk.symm) (by have := SS.out.2.size; omega)); clear hb5 hc5))
  refine bodyPost_ret (results_blk3 (by rfl) _ _ H (by rfl) #[.string ⟨#[]⟩, .string ⟨#[]⟩] 23 _ B5.out Tryz.underlying23 rfl (by kernel_rfl)) rfl ⟨?_, L5.out⟩
  rfl
set_option maxHeartbeats 8000000 in
theorem pathParse_t6 (s : ByteArray) (hs : s.size ≤ 100000) (t : ByteArray) (h1 : Lib.hasPrefix s.data.toList [60] = true) (ht : (⟨(Lib.trimPrefix s.data.toList [60]).toArray⟩ : ByteArray) = t) (h2 : Lib.hasPrefix t.data.toList [62] = false) (hts : t.size ≤ 100000) (h3 : Lib.hasPrefix t.data.toList [34] = false) (n : Nat) (hx : Lib.indexAny t.data.toList [64, 62] = (n : Int)) (hn : n < t.size) (lo rest : ByteArray) (hlo : t.extract 0 n = lo) (hre : t.extract n t.size = rest) (h5 : Pt.atoms lo.data.toList = true) (h6 : Lib.hasPrefix rest.data.toList [62] = false) (a b : ByteArray) (c1 : (⟨(Lib.cut rest.data.toList [62]).1.toArray⟩ : ByteArray) = a) (c2 : (⟨(Lib.cut rest.data.toList [62]).2.1.toArray⟩ : ByteArray) = b) (c3 : (Lib.cut rest.data.toList [62]).2.2 = true) (a2 : ByteArray) (g1 : (⟨(Lib.trimPrefix a.data.toList [64]).toArray⟩ : ByteArray) = a2) (g2 : Lib.hasPrefix a.data.toList [64] = true) (has2 : a2.size ≤ 100000) (d : ByteArray) (g3 : (⟨(Pt.domain a2.data.toList).1.toArray⟩ : ByteArray) = d) (g4 : (Pt.domain a2.data.toList).2 = 0) (g5 : decide ((64 : Int) < (lo.size : Int)) = true) (w : World) (hl : Lv w) : Calls Tryz.prog 12 #[.string s] w fun e w' => e = .returned (.tuple #[.agg #[.string ⟨#[]⟩, .string ⟨#[]⟩], .string ⟨#[]⟩, .int .i64 3]) ∧ Below w.heap.size w w' := by
  have cp1 := fun W => Tryz.strings_CutPrefix s ⟨#[60]⟩ W
  change ∀ W, Calls _ _ _ W (fun e w' => e = .returned (.tuple #[.string ⟨(Lib.trimPrefix s.data.toList [60]).toArray⟩, .bool (Lib.hasPrefix s.data.toList [60])]) ∧ _) at cp1
  rw [h1, ht] at cp1
  have cp2 := fun W => Tryz.strings_CutPrefix t ⟨#[62]⟩ W
  change ∀ W, Calls _ _ _ W (fun e w' => e = .returned (.tuple #[.string ⟨(Lib.trimPrefix t.data.toList [62]).toArray⟩, .bool (Lib.hasPrefix t.data.toList [62])]) ∧ _) at cp2
  rw [h2] at cp2
  have hp := fun W => Tryz.strings_HasPrefix t ⟨#[34]⟩ W
  change ∀ W, Calls _ _ _ W (fun e w' => e = .returned (.bool (Lib.hasPrefix t.data.toList [34])) ∧ _) at hp
  rw [h3] at hp
  have hi := fun W => idxA_any t (by omega) W
  rw [hx] at hi
  have n0 : decide ((n : Int) < 0) = false := decide_eq_false (by omega)
  have n1 : (n : Int) ≤ (t.size : Int) := by omega
  have n2 : (0 : Int) ≤ (n : Int) := by omega
  have hls : lo.size ≤ 100000 := by rw [← hlo]; simp; omega
  have hrs : rest.size ≤ 100000 := by rw [← hre]; simp; omega
  have hat := fun W => atoms_any lo (by omega) W
  rw [h5] at hat
  have cp3 := fun W => Tryz.strings_CutPrefix rest ⟨#[62]⟩ W
  change ∀ W, Calls _ _ _ W (fun e w' => e = .returned (.tuple #[.string ⟨(Lib.trimPrefix rest.data.toList [62]).toArray⟩, .bool (Lib.hasPrefix rest.data.toList [62])]) ∧ _) at cp3
  rw [h6] at cp3
  have hcu := fun W (hW : Lv W) => cut_any rest ⟨#[62]⟩ W hW (by omega)
  change ∀ W, Lv W → Calls _ _ _ W (fun e w' => e = .returned (.tuple #[.string ⟨(Lib.cut rest.data.toList [62]).1.toArray⟩, .string ⟨(Lib.cut rest.data.toList [62]).2.1.toArray⟩, .bool (Lib.cut rest.data.toList [62]).2.2]) ∧ _) at hcu
  rw [c1, c2, c3] at hcu
  have cp4 := fun W => Tryz.strings_CutPrefix a ⟨#[64]⟩ W
  change ∀ W, Calls _ _ _ W (fun e w' => e = .returned (.tuple #[.string ⟨(Lib.trimPrefix a.data.toList [64]).toArray⟩, .bool (Lib.hasPrefix a.data.toList [64])]) ∧ _) at cp4
  rw [g1, g2] at cp4
  have hdm := fun W => domain_any a2 W
  rw [g3, g4] at hdm
  clear h1 h2 h3 ht hx hts h5 hls hrs h6 c1 c2 c3 g1 g2 g3 g4 has2
  have hno := fun W => none_any W
  obtain ⟨H, hH⟩ : ∃ H, w.heap.size = H := ⟨_, rfl⟩
  have HLv : Aside (∀ W, Below H w W → Lv W) := ⟨fun W h => hl.next (hH ▸ h)⟩
  have SS : Aside (Blk (w.alloc (.cells #[.string ⟨#[]⟩, .string ⟨#[]⟩] 23)) H #[.string ⟨#[]⟩, .string ⟨#[]⟩] 23 ∧ Below H w (w.alloc (.cells #[.string ⟨#[]⟩, .string ⟨#[]⟩] 23))) := ⟨hH ▸ Blk.new (w := w) #[.string ⟨#[]⟩, .string ⟨#[]⟩] 23, (Below.refl _ w).alloc (by omega) _⟩
  clear hl
  rw [hH]
  go_enter Tryz.func12, Tryz.ntmps12
  go_wp2_with (first | (go_at_call 31; (first | (with_reducible refine (cp1 _).mono ?_) | (with_reducible refine (cp2 _).mono ?_) | (with_reducible refine (cp3 _).mono ?_) | (with_reducible refine (cp4 _).mono ?_)); rintro e w_ ⟨rfl, hw_⟩; have hw2_ := hw_.symm; subst hw2_; clear hw_) | (go_at_call 32; (with_reducible refine (hp _).mono ?_); rintro e w_ ⟨rfl, hw_⟩; have hw2_ := hw_.symm; subst hw2_; clear hw_) | (go_at_call 34; (with_reducible refine (hi _).mono ?_); rintro e W_ ⟨rfl, hb_⟩; replace SS := Aside.mk (show Blk _ H _ _ ∧ Below H _ _ from ⟨SS.out.1.below hb_, SS.out.2.trans (hb_.mono (by have := SS.out.2.size; omega))⟩); clear hb_) | (go_at_call 35; (with_reducible refine (hat _).mono ?_); rintro e W_ ⟨rfl, hb_⟩; replace SS := Aside.mk (show Blk _ H _ _ ∧ Below H _ _ from ⟨SS.out.1.below hb_, SS.out.2.trans (hb_.mono (by have := SS.out.2.size; omega))⟩); clear hb_) | (go_at_call 24; (with_reducible refine (hcu _ (HLv.out _ SS.out.2)).mono ?_); rintro e W_ ⟨rfl, hb_⟩; replace SS := Aside.mk (show Blk _ H _ _ ∧ Below H _ _ from ⟨SS.out.1.below hb_, SS.out.2.trans (hb_.mono (by have := SS.out.2.size; omega))⟩); clear hb_) | (go_at_call 37; (with_reducible refine (hdm _).mono ?_); rintro e W_ ⟨rfl, hb_⟩; replace SS := Aside.mk (show Blk _ H _ _ ∧ Below H _ _ from ⟨SS.out.1.below hb_, SS.out.2.trans (hb_.mono (by have := SS.out.2.size; omega))⟩); clear hb_) | (go_at_call 30; (with_reducible refine (hno _).mono ?_); rintro e W_ ⟨rfl, hb_⟩; replace SS := Aside.mk (show Blk _ H _ _ ∧ Below H _ _ from ⟨SS.out.1.below hb_, SS.out.2.trans (hb_.mono (by have := SS.out.2.size; omega))⟩); clear hb_) | ((with_reducible refine at_store (p := 2) rfl ?_); refine store_blk rfl 23 _ _ (by rfl) H (by rfl) #[.string ⟨#[]⟩, .string ⟨#[]⟩] #[.string ⟨#[]⟩, .string ⟨#[]⟩] 23 SS.out.1 (by rfl) (by rfl) (by kernel_rfl) (by simp [Value.oneCell']) ?_; intro w5 hb5 hc5; have B5 := Aside.mk hb5; have L5 := Aside.mk (show Below H w w5 from hc5.below SS.out.2 (fun k hk => Nat.le_of_eq hk.symm) (by have := SS.out.2.size; omega)); clear hb5 hc5))
  refine region_class (C := (fun w' => Blk w' H #[.string ⟨#[]⟩, .string ⟨#[]⟩] 23 ∧ Below H w w')) (by kernel_rfl) (by kernel_rfl) ⟨SS.out.1.below (pw_below_drewN (Below.refl _ _) 1), pw_below_drewN SS.out.2 1⟩ ?_
  refine q_run ?_ ?_ ?_ ?_
  · kernel_rfl
  rotate_left
  · intro w_ hw_
    skip
    first | (go_simp; done) | (go_simp; with_reducible rfl) | (go_simp; rw [if_neg (by first | omega | (simp; omega))])
  try simp only [Act.put, List.setIfInBounds_toArray, List.set_cons_zero, List.set_cons_succ]
  refine q_run ?_ ?_ ?_ ?_
  · kernel_rfl
  rotate_left
  · intro w_ hw_
    skip
    first | (go_simp; done) | (go_simp; with_reducible rfl) | (go_simp; rw [if_neg (by first | omega | (simp; omega))])
  try simp only [Act.put, List.setIfInBounds_toArray, List.set_cons_zero, List.set_cons_succ]
  refine q_run ?_ ?_ ?_ ?_
  · kernel_rfl
  rotate_left
  · intro w_ hw_
    skip
    first | (go_simp; done) | (go_simp; with_reducible rfl) | (go_simp; rw [if_neg (by first | omega | (simp; omega))])
  try simp only [Act.put, List.setIfInBounds_toArray, List.set_cons_zero, List.set_cons_succ]
  refine q_run ?_ ?_ ?_ ?_
  · kernel_rfl
  rotate_left
  · intro w_ hw_
    skip
    first | (go_simp; done) | (go_simp; with_reducible rfl) | (go_simp; rw [if_neg (by first | omega | (simp; omega))])
  try simp only [Act.put, List.setIfInBounds_toArray, List.set_cons_zero, List.set_cons_succ]
  refine q_run ?_ ?_ ?_ ?_
  · kernel_rfl
  rotate_left
  · intro w_ hw_
    skip
    first | (go_simp; done) | (go_simp; with_reducible rfl) | (go_simp; rw [if_neg (by first | omega | (simp; omega))])
  try simp only [Act.put, List.setIfInBounds_toArray, List.set_cons_zero, List.set_cons_succ]
  refine q_run ?_ ?_ ?_ ?_
  · kernel_rfl
  rotate_left
  · intro w_ hw_
    skip
    first | (go_simp; done) | (go_simp; with_reducible rfl) | (go_simp; rw [if_neg (by first | omega | (simp; omega))])
  try simp only [Act.put, List.setIfInBounds_toArray, List.set_cons_zero, List.set_cons_succ]
  refine q_run ?_ ?_ ?_ ?_
  · kernel_rfl
  rotate_left
  · intro w_ hw_
    skip
    first | (go_simp; done) | (go_simp; with_reducible rfl) | (go_simp; rw [if_neg (by first | omega | (simp; omega))])
  try simp only [Act.put, List.setIfInBounds_toArray, List.set_cons_zero, List.set_cons_succ]
  refine q_run ?_ ?_ ?_ ?_
  · kernel_rfl
  rotate_left
  · intro w_ hw_
    skip
    first | (go_simp; done) | (go_simp; with_reducible rfl) | (go_simp; rw [if_neg (by first | omega | (simp; omega))])
  try simp only [Act.put, List.setIfInBounds_toArray, List.set_cons_zero, List.set_cons_succ]
  refine q_nil ?_
  intro W_ hC_
  replace SS := Aside.mk hC_
  clear hC_
  go_wp2_with (first | (go_at_call 31; (first | (with_reducible refine (cp1 _).mono ?_) | (with_reducible refine (cp2 _).mono ?_) | (with_reducible refine (cp3 _).mono ?_) | (with_reducible refine (cp4 _).mono ?_)); rintro e w_ ⟨rfl, hw_⟩; have hw2_ := hw_.symm; subst hw2_; clear hw_) | (go_at_call 32; (with_reducible refine (hp _).mono ?_); rintro e w_ ⟨rfl, hw_⟩; have hw2_ := hw_.symm; subst hw2_; clear hw_) | (go_at_call 34; (with_reducible refine (hi _).mono ?_); rintro e W_ ⟨rfl, hb_⟩; replace SS := Aside.mk (show Blk _ H _ _ ∧ Below H _ _ from ⟨SS.out.1.below hb_, SS.out.2.trans (hb_.mono (by have := SS.out.2.size; omega))⟩); clear hb_) | (go_at_call 35; (with_reducible refine (hat _).mono ?_); rintro e W_ ⟨rfl, hb_⟩; replace SS := Aside.mk (show Blk _ H _ _ ∧ Below H _ _ from ⟨SS.out.1.below hb_, SS.out.2.trans (hb_.mono (by have := SS.out.2.size; omega))⟩); clear hb_) | (go_at_call 24; (with_reducible refine (hcu _ (HLv.out _ SS.out.2)).mono ?_); rintro e W_ ⟨rfl, hb_⟩; replace SS := Aside.mk (show Blk _ H _ _ ∧ Below H _ _ from ⟨SS.out.1.below hb_, SS.out.2.trans (hb_.mono (by have := SS.out.2.size; omega))⟩); clear hb_) | (go_at_call 37; (with_reducible refine (hdm _).mono ?_); rintro e W_ ⟨rfl, hb_⟩; replace SS := Aside.mk (show Blk _ H _ _ ∧ Below H _ _ from ⟨SS.out.1.below hb_, SS.out.2.trans (hb_.mono (by have := SS.out.2.size; omega))⟩); clear hb_) | (go_at_call 30; (with_reducible refine (hno _).mono ?_); rintro e W_ ⟨rfl, hb_⟩; replace SS := Aside.mk (show Blk _ H _ _ ∧ Below H _ _ from ⟨SS.out.1.below hb_, SS.out.2.trans (hb_.mono (by have := SS.out.2.size; omega))⟩); clear hb_) | ((with_reducible refine at_store (p := 2) rfl ?_); refine store_blk rfl 23 _ _ (by rfl) H (by rfl) #[.string ⟨#[]⟩, .string ⟨#[]⟩] #[.string ⟨#[]⟩, .string ⟨#[]⟩] 23 SS.out.1 (by rfl) (by rfl) (by kernel_rfl) (by simp [Value.oneCell']) ?_; intro w5 hb5 hc5; have B5 := Aside.mk hb5; have L5 := Aside.mk (show Below H w w5 from hc5.below SS.out.2 (fun k hk => Nat.le_of_eq hk.symm) (by have := SS.out.2.size; omega)); clear hb5 hc5))
  refine bodyPost_ret (results_blk3 (by rfl) _ _ H (by rfl) #[.string ⟨#[]⟩, .string ⟨#[]⟩] 23 _ B5.out Tryz.underlying23 rfl (by kernel_rfl)) rfl ⟨?_, L5.out⟩
  rfl
set_option maxHeartbeats 8000000 in
theorem pathParse_t7 (s : ByteArray) (hs : s.size ≤ 100000) (t : ByteArray) (h1 : Lib.hasPrefix s.data.toList [60] = true) (ht : (⟨(Lib.trimPrefix s.data.toList [60]).toArray⟩ : ByteArray) = t) (h2 : Lib.hasPrefix t.data.toList [62] = false) (hts : t.size ≤ 100000) (h3 : Lib.hasPrefix t.data.toList [34] = false) (n : Nat) (hx : Lib.indexAny t.data.toList [64, 62] = (n : Int)) (hn : n < t.size) (lo rest : ByteArray) (hlo : t.extract 0 n = lo) (hre : t.extract n t.size = rest) (h5 : Pt.atoms lo.data.toList = true) (h6 : Lib.hasPrefix rest.data.toList [62] = false) (a b : ByteArray) (c1 : (⟨(Lib.cut rest.data.toList [62]).1.toArray⟩ : ByteArray) = a) (c2 : (⟨(Lib.cut rest.data.toList [62]).2.1.toArray⟩ : ByteArray) = b) (c3 : (Lib.cut rest.data.toList [62]).2.2 = true) (a2 : ByteArray) (g1 : (⟨(Lib.trimPrefix a.data.toList [64]).toArray⟩ : ByteArray) = a2) (g2 : Lib.hasPrefix a.data.toList [64] = true) (has2 : a2.size ≤ 100000) (d : ByteArray) (g3 : (⟨(Pt.domain a2.data.toList).1.toArray⟩ : ByteArray) = d) (g4 : (Pt.domain a2.data.toList).2 = 0) (g5 : decide ((64 : Int) < (lo.size : Int)) = false) (w : World) (hl : Lv w) : Calls Tryz.prog 12 #[.string s] w fun e w' => e = .returned (.tuple #[.agg #[.string lo, .string d], .string b, .int .i64 0]) ∧ Below w.heap.size w w' := by
  have cp1 := fun W => Tryz.strings_CutPrefix s ⟨#[60]⟩ W
  change ∀ W, Calls _ _ _ W (fun e w' => e = .returned (.tuple #[.string ⟨(Lib.trimPrefix s.data.toList [60]).toArray⟩, .bool (Lib.hasPrefix s.data.toList [60])]) ∧ _) at cp1
  rw [h1, ht] at cp1
  have cp2 := fun W => Tryz.strings_CutPrefix t ⟨#[62]⟩ W
  change ∀ W, Calls _ _ _ W (fun e w' => e = .returned (.tuple #[.string ⟨(Lib.trimPrefix t.data.toList [62]).toArray⟩, .bool (Lib.hasPrefix t.data.toList [62])]) ∧ _) at cp2
  rw [h2] at cp2
  have hp := fun W => Tryz.strings_HasPrefix t ⟨#[34]⟩ W
  change ∀ W, Calls _ _ _ W (fun e w' => e = .returned (.bool (Lib.hasPrefix t.data.toList [34])) ∧ _) at hp
  rw [h3] at hp
  have hi := fun W => idxA_any t (by omega) W
  rw [hx] at hi
  have n0 : decide ((n : Int) < 0) = false := decide_eq_false (by omega)
  have n1 : (n : Int) ≤ (t.size : Int) := by omega
  have n2 : (0 : Int) ≤ (n : Int) := by omega
  have hls : lo.size ≤ 100000 := by rw [← hlo]; simp; omega
  have hrs : rest.size ≤ 100000 := by rw [← hre]; simp; omega
  have hat := fun W => atoms_any lo (by omega) W
  rw [h5] at hat
  have cp3 := fun W => Tryz.strings_CutPrefix rest ⟨#[62]⟩ W
  change ∀ W, Calls _ _ _ W (fun e w' => e = .returned (.tuple #[.string ⟨(Lib.trimPrefix rest.data.toList [62]).toArray⟩, .bool (Lib.hasPrefix rest.data.toList [62])]) ∧ _) at cp3
  rw [h6] at cp3
  have hcu := fun W (hW : Lv W) => cut_any rest ⟨#[62]⟩ W hW (by omega)
  change ∀ W, Lv W → Calls _ _ _ W (fun e w' => e = .returned (.tuple #[.string ⟨(Lib.cut rest.data.toList [62]).1.toArray⟩, .string ⟨(Lib.cut rest.data.toList [62]).2.1.toArray⟩, .bool (Lib.cut rest.data.toList [62]).2.2]) ∧ _) at hcu
  rw [c1, c2, c3] at hcu
  have cp4 := fun W => Tryz.strings_CutPrefix a ⟨#[64]⟩ W
  change ∀ W, Calls _ _ _ W (fun e w' => e = .returned (.tuple #[.string ⟨(Lib.trimPrefix a.data.toList [64]).toArray⟩, .bool (Lib.hasPrefix a.data.toList [64])]) ∧ _) at cp4
  rw [g1, g2] at cp4
  have hdm := fun W => domain_any a2 W
  rw [g3, g4] at hdm
  clear h1 h2 h3 ht hx hts h5 hls hrs h6 c1 c2 c3 g1 g2 g3 g4 has2
  have hno := fun W => none_any W
  obtain ⟨H, hH⟩ : ∃ H, w.heap.size = H := ⟨_, rfl⟩
  have HLv : Aside (∀ W, Below H w W → Lv W) := ⟨fun W h => hl.next (hH ▸ h)⟩
  have SS : Aside (Blk (w.alloc (.cells #[.string ⟨#[]⟩, .string ⟨#[]⟩] 23)) H #[.string ⟨#[]⟩, .string ⟨#[]⟩] 23 ∧ Below H w (w.alloc (.cells #[.string ⟨#[]⟩, .string ⟨#[]⟩] 23))) := ⟨hH ▸ Blk.new (w := w) #[.string ⟨#[]⟩, .string ⟨#[]⟩] 23, (Below.refl _ w).alloc (by omega) _⟩
  clear hl
  rw [hH]
  go_enter Tryz.func12, Tryz.ntmps12
  go_wp2_with (first | (go_at_call 31; (first | (with_reducible refine (cp1 _).mono ?_) | (with_reducible refine (cp2 _).mono ?_) | (with_reducible refine (cp3 _).mono ?_) | (with_reducible refine (cp4 _).mono ?_)); rintro e w_ ⟨rfl, hw_⟩; have hw2_ := hw_.symm; subst hw2_; clear hw_) | (go_at_call 32; (with_reducible refine (hp _).mono ?_); rintro e w_ ⟨rfl, hw_⟩; have hw2_ := hw_.symm; subst hw2_; clear hw_) | (go_at_call 34; (with_reducible refine (hi _).mono ?_); rintro e W_ ⟨rfl, hb_⟩; replace SS := Aside.mk (show Blk _ H _ _ ∧ Below H _ _ from ⟨SS.out.1.below hb_, SS.out.2.trans (hb_.mono (by have := SS.out.2.size; omega))⟩); clear hb_) | (go_at_call 35; (with_reducible refine (hat _).mono ?_); rintro e W_ ⟨rfl, hb_⟩; replace SS := Aside.mk (show Blk _ H _ _ ∧ Below H _ _ from ⟨SS.out.1.below hb_, SS.out.2.trans (hb_.mono (by have := SS.out.2.size; omega))⟩); clear hb_) | (go_at_call 24; (with_reducible refine (hcu _ (HLv.out _ SS.out.2)).mono ?_); rintro e W_ ⟨rfl, hb_⟩; replace SS := Aside.mk (show Blk _ H _ _ ∧ Below H _ _ from ⟨SS.out.1.below hb_, SS.out.2.trans (hb_.mono (by have := SS.out.2.size; omega))⟩); clear hb_) | (go_at_call 37; (with_reducible refine (hdm _).mono ?_); rintro e W_ ⟨rfl, hb_⟩; replace SS := Aside.mk (show Blk _ H _ _ ∧ Below H _ _ from ⟨SS.out.1.below hb_, SS.out.2.trans (hb_.mono (by have := SS.out.2.size; omega))⟩); clear hb_) | (go_at_call 30; (with_reducible refine (hno _).mono ?_); rintro e W_ ⟨rfl, hb_⟩; replace SS := Aside.mk (show Blk _ H _ _ ∧ Below H _ _ from ⟨SS.out.1.below hb_, SS.out.2.trans (hb_.mono (by have := SS.out.2.size; omega))⟩); clear hb_) | ((with_reducible refine at_store (p := 2) rfl ?_); refine store_blk rfl 23 _ _ (by rfl) H (by rfl) #[.string ⟨#[]⟩, .string ⟨#[]⟩] #[.string lo, .string d] 23 SS.out.1 (by rfl) (by rfl) (by kernel_rfl) (by simp [Value.oneCell']) ?_; intro w5 hb5 hc5; have B5 := Aside.mk hb5; have L5 := Aside.mk (show Below H w w5 from hc5.below SS.out.2 (fun k hk => Nat.le_of_eq hk.symm) (by have := SS.out.2.size; omega)); clear hb5 hc5))
  refine region_class (C := (fun w' => Blk w' H #[.string ⟨#[]⟩, .string ⟨#[]⟩] 23 ∧ Below H w w')) (by kernel_rfl) (by kernel_rfl) ⟨SS.out.1.below (pw_below_drewN (Below.refl _ _) 1), pw_below_drewN SS.out.2 1⟩ ?_
  refine q_run ?_ ?_ ?_ ?_
  · kernel_rfl
  rotate_left
  · intro w_ hw_
    skip
    first | (go_simp; done) | (go_simp; with_reducible rfl) | (go_simp; rw [if_neg (by first | omega | (simp; omega))])
  try simp only [Act.put, List.setIfInBounds_toArray, List.set_cons_zero, List.set_cons_succ]
  refine q_run ?_ ?_ ?_ ?_
  · kernel_rfl
  rotate_left
  · intro w_ hw_
    skip
    first | (go_simp; done) | (go_simp; with_reducible rfl) | (go_simp; rw [if_neg (by first | omega | (simp; omega))])
  try simp only [Act.put, List.setIfInBounds_toArray, List.set_cons_zero, List.set_cons_succ]
  refine q_run ?_ ?_ ?_ ?_
  · kernel_rfl
  rotate_left
  · intro w_ hw_
    skip
    first | (go_simp; done) | (go_simp; with_reducible rfl) | (go_simp; rw [if_neg (by first | omega | (simp; omega))])
  try simp only [Act.put, List.setIfInBounds_toArray, List.set_cons_zero, List.set_cons_succ]
  refine q_run ?_ ?_ ?_ ?_
  · kernel_rfl
  rotate_left
  · intro w_ hw_
    skip
    first | (go_simp; done) | (go_simp; with_reducible rfl) | (go_simp; rw [if_neg (by first | omega | (simp; omega))])
  try simp only [Act.put, List.setIfInBounds_toArray, List.set_cons_zero, List.set_cons_succ]
  refine q_run ?_ ?_ ?_ ?_
  · kernel_rfl
  rotate_left
  · intro w_ hw_
    skip
    first | (go_simp; done) | (go_simp; with_reducible rfl) | (go_simp; rw [if_neg (by first | omega | (simp; omega))])
  try simp only [Act.put, List.setIfInBounds_toArray, List.set_cons_zero, List.set_cons_succ]
  refine q_run ?_ ?_ ?_ ?_
  · kernel_rfl
  rotate_left
  · intro w_ hw_
    skip
    first | (go_simp; done) | (go_simp; with_reducible rfl) | (go_simp; rw [if_neg (by first | omega | (simp; omega))])
  try simp only [Act.put, List.setIfInBounds_toArray, List.set_cons_zero, List.set_cons_succ]
  refine q_run ?_ ?_ ?_ ?_
  · kernel_rfl
  rotate_left
  · intro w_ hw_
    skip
    first | (go_simp; done) | (go_simp; with_reducible rfl) | (go_simp; rw [if_neg (by first | omega | (simp; omega))])
  try simp only [Act.put, List.setIfInBounds_toArray, List.set_cons_zero, List.set_cons_succ]
  refine q_run ?_ ?_ ?_ ?_
  · kernel_rfl
  rotate_left
  · intro w_ hw_
    skip
    first | (go_simp; done) | (go_simp; with_reducible rfl) | (go_simp; rw [if_neg (by first | omega | (simp; omega))])
  try simp only [Act.put, List.setIfInBounds_toArray, List.set_cons_zero, List.set_cons_succ]
  refine q_nil ?_
  intro W_ hC_
  replace SS := Aside.mk hC_
  clear hC_
  go_wp2_with (first | (go_at_call 31; (first | (with_reducible refine (cp1 _).mono ?_) | (with_reducible refine (cp2 _).mono ?_) | (with_reducible refine (cp3 _).mono ?_) | (with_reducible refine (cp4 _).mono ?_)); rintro e w_ ⟨rfl, hw_⟩; have hw2_ := hw_.symm; subst hw2_; clear hw_) | (go_at_call 32; (with_reducible refine (hp _).mono ?_); rintro e w_ ⟨rfl, hw_⟩; have hw2_ := hw_.symm; subst hw2_; clear hw_) | (go_at_call 34; (with_reducible refine (hi _).mono ?_); rintro e W_ ⟨rfl, hb_⟩; replace SS := Aside.mk (show Blk _ H _ _ ∧ Below H _ _ from ⟨SS.out.1.below hb_, SS.out.2.trans (hb_.mono (by have := SS.out.2.size; omega))⟩); clear hb_) | (go_at_call 35; (with_reducible refine (hat _).mono ?_); rintro e W_ ⟨rfl, hb_⟩; replace SS := Aside.mk (show Blk _ H _ _ ∧ Below H _ _ from ⟨SS.out.1.below hb_, SS.out.2.trans (hb_.mono (by have := SS.out.2.size; omega))⟩); clear hb_) | (go_at_call 24; (with_reducible refine (hcu _ (HLv.out _ SS.out.2)).mono ?_); rintro e W_ ⟨rfl, hb_⟩; replace SS := Aside.mk (show Blk _ H _ _ ∧ Below H _ _ from ⟨SS.out.1.below hb_, SS.out.2.trans (hb_.mono (by have := SS.out.2.size; omega))⟩); clear hb_) | (go_at_call 37; (with_reducible refine (hdm _).mono ?_); rintro e W_ ⟨rfl, hb_⟩; replace SS := Aside.mk (show Blk _ H _ _ ∧ Below H _ _ from ⟨SS.out.1.below hb_, SS.out.2.trans (hb_.mono (by have := SS.out.2.size; omega))⟩); clear hb_) | (go_at_call 30; (with_reducible refine (hno _).mono ?_); rintro e W_ ⟨rfl, hb_⟩; replace SS := Aside.mk (show Blk _ H _ _ ∧ Below H _ _ from ⟨SS.out.1.below hb_, SS.out.2.trans (hb_.mono (by have := SS.out.2.size; omega))⟩); clear hb_) | ((with_reducible refine at_store (p := 2) rfl ?_); refine store_blk rfl 23 _ _ (by rfl) H (by rfl) #[.string ⟨#[]⟩, .string ⟨#[]⟩] #[.string lo, .string d] 23 SS.out.1 (by rfl) (by rfl) (by kernel_rfl) (by simp [Value.oneCell']) ?_; intro w5 hb5 hc5; have B5 := Aside.mk hb5; have L5 := Aside.mk (show Below H w w5 from hc5.below SS.out.2 (fun k hk => Nat.le_of_eq hk.symm) (by have := SS.out.2.size; omega)); clear hb5 hc5))
  refine bodyPost_ret (results_blk3 (by rfl) _ _ H (by rfl) #[.string lo, .string d] 23 _ B5.out Tryz.underlying23 rfl (by kernel_rfl)) rfl ⟨?_, L5.out⟩
  rfl
end Go.Proofs.YtllhbcpbihhdnaaGreatDoor
