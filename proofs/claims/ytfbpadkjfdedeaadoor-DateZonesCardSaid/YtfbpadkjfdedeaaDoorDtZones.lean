/-
  Walks of the date laws.
-/
import Derived.Test.YtfbpadkjfdedeaaDoorDtAwake
import Derived.Test.YtfbpadkjfdedeaaDoorDtLaw
namespace Go.Proofs.YtfbpadkjfdedeaaDoor
open Go.RowKit
set_option linter.unusedVariables false
set_option linter.unusedSimpArgs false
set_option maxRecDepth 100000
theorem two_any (n : Int) (w : World) (h0 : 0 ≤ n) (h1 : n ≤ 99) :
    Calls Tryd.prog 21 #[.int .i64 n] w fun e w' => e = .returned (.string ⟨#[DtCal.dg (n / 10), DtCal.dg n]⟩) ∧ Below w.heap.size w w' := by
  have e1 : ((DtCal.dg (n / 10)).toNat : Int) = 48 + n / 10 := by have := DtCal.dg_val (n / 10); omega
  have e2 : ((DtCal.dg n).toNat : Int) = 48 + n % 10 := DtCal.dg_val n
  have kc : (convert 46 9 (.slice (some ⟨w.heap.size, 0, none⟩) 2 2)).run Tryd.prog (w.alloc (.cells #[.int .u8 (48 + n / 10), .int .u8 (48 + n % 10)] 5)) =
      .ok (.string ⟨#[DtCal.dg (n / 10), DtCal.dg n]⟩) (w.alloc (.cells #[.int .u8 (48 + n / 10), .int .u8 (48 + n % 10)] 5)) := by
    rw [run_convert_bytes_arg (w.alloc (.cells #[.int .u8 (48 + n / 10), .int .u8 (48 + n % 10)] 5)) 46 5 Tryd.underlying46 Tryd.underlying5 w.heap.size 0 2 2 [48 + n / 10, 48 + n % 10] rfl
      (fun i hi => by match i, hi with
                      | 0, _ => simp
                      | 1, _ => simp) 9 Tryd.underlying9]
    rw [← e1, ← e2]
    simp [strOfNums]
  go_enter Tryd.func21, Tryd.ntmps21
  go_wp2
  go_ret
  exact ⟨rfl, (Below.refl _ _).alloc (Nat.le_refl _) _⟩
theorem zone_list (t : Int) (z : List UInt8) (s : ByteArray) (hs : s.data.toList = (DtCal.text t).take 19 ++ z) (W : World) (a er : Int) (hp : DtCal.parse (DtCal.headOf (DtCal.ofD (t / 86400)) (t % 86400) z) = (a, er)) :
    Calls Tryd.prog 13 #[.string s] W fun e w' => e = .returned (.tuple #[.int .i64 a, .int .i64 er]) ∧ Below W.heap.size W w' := by
  have := parse_any s W
  rw [hs, show (DtCal.text t).take 19 ++ z = DtCal.headOf (DtCal.ofD (t / 86400)) (t % 86400) z from rfl, hp] at this
  exact this
theorem zone_parse (t h m : Int) (c : UInt8) (sg : Int) (hc : (c = 43 ∧ sg = -1) ∨ (c = 45 ∧ sg = 1)) (h0 : 0 ≤ t) (h1 : t ≤ 253402300799) (h2 : 0 ≤ h) (h3 : h ≤ 23) (h4 : 0 ≤ m) (h5 : m ≤ 59) (a er : Int)
    (hr : (if t + sg * (h * 3600 + m * 60) < 0 ∨ t + sg * (h * 3600 + m * 60) ≥ 253402300800 then ((0 : Int), (1 : Int)) else (t + sg * (h * 3600 + m * 60), 0)) = (a, er)) (W : World) :
    Calls Tryd.prog 13 #[.string (ByteArray.extract ⟨(DtCal.text t).toArray⟩ 0 19 ++ ⟨#[c]⟩ ++ (⟨#[DtCal.dg (h / 10), DtCal.dg h]⟩ ++ ⟨#[58]⟩ ++ ⟨#[DtCal.dg (m / 10), DtCal.dg m]⟩))] W fun e w' => e = .returned (.tuple #[.int .i64 a, .int .i64 er]) ∧ Below W.heap.size W w' := by
  refine zone_list t (c :: DtCal.dg (h / 10) :: DtCal.dg h :: 58 :: DtCal.dg (m / 10) :: [DtCal.dg m]) _ ?_ W a er ?_
  · simp only [ByteArray.data_append, Array.toList_append, Lib.extract_data]
    simp
  · rw [DtCal.parse_head t h0 (by omega) _ sg h m (DtCal.zone_sign c sg h m hc (by omega) (by omega)) (by omega) (by omega), hr]
theorem zone_null (t : Int) (c : UInt8) (sg : Int) (hc : (c = 43 ∧ sg = -1) ∨ (c = 45 ∧ sg = 1)) (h0 : 0 ≤ t) (h1 : t ≤ 253402300799) (W : World) :
    Calls Tryd.prog 13 #[.string (ByteArray.extract ⟨(DtCal.text t).toArray⟩ 0 19 ++ ⟨#[c, 48, 48, 58, 48, 48]⟩)] W fun e w' => e = .returned (.tuple #[.int .i64 t, .int .i64 0]) ∧ Below W.heap.size W w' := by
  refine zone_list t (c :: DtCal.dg (0 / 10) :: DtCal.dg 0 :: 58 :: DtCal.dg (0 / 10) :: [DtCal.dg 0]) _ ?_ W t 0 ?_
  · simp only [ByteArray.data_append, Array.toList_append, Lib.extract_data]
    simp
    decide
  · rw [DtCal.parse_head t h0 (by omega) _ sg 0 0 (DtCal.zone_sign c sg 0 0 hc (by omega) (by omega)) (by omega) (by omega)]
    simp only [Int.zero_mul, Int.add_zero, Int.mul_zero]
    rw [if_neg (by omega)]
set_option maxHeartbeats 8000000 in
theorem zones_in (t h m : Int) (w : World) (ht : Tab w) (h0 : 0 ≤ t) (h1 : t ≤ 253402300799) (h2 : 0 ≤ h) (h3 : h ≤ 23) (h4 : 0 ≤ m) (h5 : m ≤ 59) :
    Calls Tryd.prog 6 #[.int .i64 t, .int .i64 h, .int .i64 m] w fun e w' => e = .returned (.bool true) ∧ Below w.heap.size w w' := by
  have hl : (DtCal.text t).length = 20 := rfl
  have hC : ∀ W, Calls Tryd.prog 13 #[.string (ByteArray.extract ⟨(DtCal.text t).toArray⟩ 0 19 ++ ⟨#[43, 48, 48, 58, 48, 48]⟩)] W fun e w' => e = .returned (.tuple #[.int .i64 t, .int .i64 0]) ∧ Below W.heap.size W w' := fun W => zone_null t 43 (-1) (.inl ⟨rfl, rfl⟩) h0 h1 W
  have hD : ∀ W, Calls Tryd.prog 13 #[.string (ByteArray.extract ⟨(DtCal.text t).toArray⟩ 0 19 ++ ⟨#[45, 48, 48, 58, 48, 48]⟩)] W fun e w' => e = .returned (.tuple #[.int .i64 t, .int .i64 0]) ∧ Below W.heap.size W w' := fun W => zone_null t 45 1 (.inr ⟨rfl, rfl⟩) h0 h1 W
  rcases (show (h * 3600 + m * 60 ≤ t ∧ t + (h * 3600 + m * 60) ≤ 253402300799) ∨ (h * 3600 + m * 60 ≤ t ∧ 253402300799 < t + (h * 3600 + m * 60)) ∨ (t < h * 3600 + m * 60 ∧ t + (h * 3600 + m * 60) ≤ 253402300799) ∨ (t < h * 3600 + m * 60 ∧ 253402300799 < t + (h * 3600 + m * 60)) by omega) with ⟨ka, kb⟩ | ⟨ka, kb⟩ | ⟨ka, kb⟩ | ⟨ka, kb⟩
  · have hA : ∀ W, Calls Tryd.prog 13 #[.string (ByteArray.extract ⟨(DtCal.text t).toArray⟩ 0 19 ++ ⟨#[43]⟩ ++ (⟨#[DtCal.dg (h / 10), DtCal.dg h]⟩ ++ ⟨#[58]⟩ ++ ⟨#[DtCal.dg (m / 10), DtCal.dg m]⟩))] W fun e w' => e = .returned (.tuple #[.int .i64 (t - (h * 3600 + m * 60)), .int .i64 0]) ∧ Below W.heap.size W w' := fun W => zone_parse t h m 43 (-1) (.inl ⟨rfl, rfl⟩) h0 h1 h2 h3 h4 h5 _ _ (by rw [if_neg (by omega)]; first | done | exact Prod.ext (show t + -1 * (h * 3600 + m * 60) = t - (h * 3600 + m * 60) by omega) rfl) W
    have hB : ∀ W, Calls Tryd.prog 13 #[.string (ByteArray.extract ⟨(DtCal.text t).toArray⟩ 0 19 ++ ⟨#[45]⟩ ++ (⟨#[DtCal.dg (h / 10), DtCal.dg h]⟩ ++ ⟨#[58]⟩ ++ ⟨#[DtCal.dg (m / 10), DtCal.dg m]⟩))] W fun e w' => e = .returned (.tuple #[.int .i64 (t + (h * 3600 + m * 60)), .int .i64 0]) ∧ Below W.heap.size W w' := fun W => zone_parse t h m 45 1 (.inr ⟨rfl, rfl⟩) h0 h1 h2 h3 h4 h5 _ _ (by rw [if_neg (by omega)]; first | done | exact Prod.ext (show t + 1 * (h * 3600 + m * 60) = t + (h * 3600 + m * 60) by omega) rfl) W
    have M := Mine.start w
    go_enter Tryd.func6, Tryd.ntmps6
    go_wp2_with (first
      | (go_at_call 8; refine (awake_any _ (Tab.next ht (Mine.low (by first | exact M | exact Mine.alloc M _ _ | exact Mine.alloc (Mine.alloc M _ _) _ _ | exact Mine.drewN M _)))).mono ?_; rintro e w1 ⟨rfl, hb⟩; have M2 := Mine.next (by first | exact M | exact Mine.alloc M _ _ | exact Mine.alloc (Mine.alloc M _ _) _ _ | exact Mine.drewN M _) hb; clear M; have M := M2; clear M2; clear hb; )
      | (go_at_call 15; refine (print_yes _ _ (by omega) (by omega) (Tab.next ht (Mine.low (by first | exact M | exact Mine.alloc M _ _ | exact Mine.alloc (Mine.alloc M _ _) _ _ | exact Mine.drewN M _)))).mono ?_; rintro e w1 ⟨rfl, hb⟩; have M2 := Mine.next (by first | exact M | exact Mine.alloc M _ _ | exact Mine.alloc (Mine.alloc M _ _) _ _ | exact Mine.drewN M _) hb; clear M; have M := M2; clear M2; clear hb; )
      | (go_at_call 21; refine (two_any _ _ (by omega) (by omega)).mono ?_; rintro e w1 ⟨rfl, hb⟩; have M2 := Mine.next (by first | exact M | exact Mine.alloc M _ _ | exact Mine.alloc (Mine.alloc M _ _) _ _ | exact Mine.drewN M _) hb; clear M; have M := M2; clear M2; clear hb; )
      | (go_at_call 13; (with_reducible refine (hA _).mono ?_); rintro e w1 ⟨rfl, hb⟩; have M2 := Mine.next (by first | exact M | exact Mine.alloc M _ _ | exact Mine.alloc (Mine.alloc M _ _) _ _ | exact Mine.drewN M _) hb; clear M; have M := M2; clear M2; clear hb; )
      | (go_at_call 13; (with_reducible refine (hB _).mono ?_); rintro e w1 ⟨rfl, hb⟩; have M2 := Mine.next (by first | exact M | exact Mine.alloc M _ _ | exact Mine.alloc (Mine.alloc M _ _) _ _ | exact Mine.drewN M _) hb; clear M; have M := M2; clear M2; clear hb; )
      | (go_at_call 13; (with_reducible refine (hC _).mono ?_); rintro e w1 ⟨rfl, hb⟩; have M2 := Mine.next (by first | exact M | exact Mine.alloc M _ _ | exact Mine.alloc (Mine.alloc M _ _) _ _ | exact Mine.drewN M _) hb; clear M; have M := M2; clear M2; clear hb; )
      | (go_at_call 13; (with_reducible refine (hD _).mono ?_); rintro e w1 ⟨rfl, hb⟩; have M2 := Mine.next (by first | exact M | exact Mine.alloc M _ _ | exact Mine.alloc (Mine.alloc M _ _) _ _ | exact Mine.drewN M _) hb; clear M; have M := M2; clear M2; clear hb; ))
    go_ret
    exact ⟨rfl, M.low⟩
  · have hA : ∀ W, Calls Tryd.prog 13 #[.string (ByteArray.extract ⟨(DtCal.text t).toArray⟩ 0 19 ++ ⟨#[43]⟩ ++ (⟨#[DtCal.dg (h / 10), DtCal.dg h]⟩ ++ ⟨#[58]⟩ ++ ⟨#[DtCal.dg (m / 10), DtCal.dg m]⟩))] W fun e w' => e = .returned (.tuple #[.int .i64 (t - (h * 3600 + m * 60)), .int .i64 0]) ∧ Below W.heap.size W w' := fun W => zone_parse t h m 43 (-1) (.inl ⟨rfl, rfl⟩) h0 h1 h2 h3 h4 h5 _ _ (by rw [if_neg (by omega)]; first | done | exact Prod.ext (show t + -1 * (h * 3600 + m * 60) = t - (h * 3600 + m * 60) by omega) rfl) W
    have hB : ∀ W, Calls Tryd.prog 13 #[.string (ByteArray.extract ⟨(DtCal.text t).toArray⟩ 0 19 ++ ⟨#[45]⟩ ++ (⟨#[DtCal.dg (h / 10), DtCal.dg h]⟩ ++ ⟨#[58]⟩ ++ ⟨#[DtCal.dg (m / 10), DtCal.dg m]⟩))] W fun e w' => e = .returned (.tuple #[.int .i64 0, .int .i64 1]) ∧ Below W.heap.size W w' := fun W => zone_parse t h m 45 1 (.inr ⟨rfl, rfl⟩) h0 h1 h2 h3 h4 h5 _ _ (by rw [if_pos (by omega)]) W
    have M := Mine.start w
    go_enter Tryd.func6, Tryd.ntmps6
    go_wp2_with (first
      | (go_at_call 8; refine (awake_any _ (Tab.next ht (Mine.low (by first | exact M | exact Mine.alloc M _ _ | exact Mine.alloc (Mine.alloc M _ _) _ _ | exact Mine.drewN M _)))).mono ?_; rintro e w1 ⟨rfl, hb⟩; have M2 := Mine.next (by first | exact M | exact Mine.alloc M _ _ | exact Mine.alloc (Mine.alloc M _ _) _ _ | exact Mine.drewN M _) hb; clear M; have M := M2; clear M2; clear hb; )
      | (go_at_call 15; refine (print_yes _ _ (by omega) (by omega) (Tab.next ht (Mine.low (by first | exact M | exact Mine.alloc M _ _ | exact Mine.alloc (Mine.alloc M _ _) _ _ | exact Mine.drewN M _)))).mono ?_; rintro e w1 ⟨rfl, hb⟩; have M2 := Mine.next (by first | exact M | exact Mine.alloc M _ _ | exact Mine.alloc (Mine.alloc M _ _) _ _ | exact Mine.drewN M _) hb; clear M; have M := M2; clear M2; clear hb; )
      | (go_at_call 21; refine (two_any _ _ (by omega) (by omega)).mono ?_; rintro e w1 ⟨rfl, hb⟩; have M2 := Mine.next (by first | exact M | exact Mine.alloc M _ _ | exact Mine.alloc (Mine.alloc M _ _) _ _ | exact Mine.drewN M _) hb; clear M; have M := M2; clear M2; clear hb; )
      | (go_at_call 13; (with_reducible refine (hA _).mono ?_); rintro e w1 ⟨rfl, hb⟩; have M2 := Mine.next (by first | exact M | exact Mine.alloc M _ _ | exact Mine.alloc (Mine.alloc M _ _) _ _ | exact Mine.drewN M _) hb; clear M; have M := M2; clear M2; clear hb; )
      | (go_at_call 13; (with_reducible refine (hB _).mono ?_); rintro e w1 ⟨rfl, hb⟩; have M2 := Mine.next (by first | exact M | exact Mine.alloc M _ _ | exact Mine.alloc (Mine.alloc M _ _) _ _ | exact Mine.drewN M _) hb; clear M; have M := M2; clear M2; clear hb; )
      | (go_at_call 13; (with_reducible refine (hC _).mono ?_); rintro e w1 ⟨rfl, hb⟩; have M2 := Mine.next (by first | exact M | exact Mine.alloc M _ _ | exact Mine.alloc (Mine.alloc M _ _) _ _ | exact Mine.drewN M _) hb; clear M; have M := M2; clear M2; clear hb; )
      | (go_at_call 13; (with_reducible refine (hD _).mono ?_); rintro e w1 ⟨rfl, hb⟩; have M2 := Mine.next (by first | exact M | exact Mine.alloc M _ _ | exact Mine.alloc (Mine.alloc M _ _) _ _ | exact Mine.drewN M _) hb; clear M; have M := M2; clear M2; clear hb; ))
    go_ret
    exact ⟨rfl, M.low⟩
  · have hA : ∀ W, Calls Tryd.prog 13 #[.string (ByteArray.extract ⟨(DtCal.text t).toArray⟩ 0 19 ++ ⟨#[43]⟩ ++ (⟨#[DtCal.dg (h / 10), DtCal.dg h]⟩ ++ ⟨#[58]⟩ ++ ⟨#[DtCal.dg (m / 10), DtCal.dg m]⟩))] W fun e w' => e = .returned (.tuple #[.int .i64 0, .int .i64 1]) ∧ Below W.heap.size W w' := fun W => zone_parse t h m 43 (-1) (.inl ⟨rfl, rfl⟩) h0 h1 h2 h3 h4 h5 _ _ (by rw [if_pos (by omega)]) W
    have hB : ∀ W, Calls Tryd.prog 13 #[.string (ByteArray.extract ⟨(DtCal.text t).toArray⟩ 0 19 ++ ⟨#[45]⟩ ++ (⟨#[DtCal.dg (h / 10), DtCal.dg h]⟩ ++ ⟨#[58]⟩ ++ ⟨#[DtCal.dg (m / 10), DtCal.dg m]⟩))] W fun e w' => e = .returned (.tuple #[.int .i64 (t + (h * 3600 + m * 60)), .int .i64 0]) ∧ Below W.heap.size W w' := fun W => zone_parse t h m 45 1 (.inr ⟨rfl, rfl⟩) h0 h1 h2 h3 h4 h5 _ _ (by rw [if_neg (by omega)]; first | done | exact Prod.ext (show t + 1 * (h * 3600 + m * 60) = t + (h * 3600 + m * 60) by omega) rfl) W
    have M := Mine.start w
    go_enter Tryd.func6, Tryd.ntmps6
    go_wp2_with (first
      | (go_at_call 8; refine (awake_any _ (Tab.next ht (Mine.low (by first | exact M | exact Mine.alloc M _ _ | exact Mine.alloc (Mine.alloc M _ _) _ _ | exact Mine.drewN M _)))).mono ?_; rintro e w1 ⟨rfl, hb⟩; have M2 := Mine.next (by first | exact M | exact Mine.alloc M _ _ | exact Mine.alloc (Mine.alloc M _ _) _ _ | exact Mine.drewN M _) hb; clear M; have M := M2; clear M2; clear hb; )
      | (go_at_call 15; refine (print_yes _ _ (by omega) (by omega) (Tab.next ht (Mine.low (by first | exact M | exact Mine.alloc M _ _ | exact Mine.alloc (Mine.alloc M _ _) _ _ | exact Mine.drewN M _)))).mono ?_; rintro e w1 ⟨rfl, hb⟩; have M2 := Mine.next (by first | exact M | exact Mine.alloc M _ _ | exact Mine.alloc (Mine.alloc M _ _) _ _ | exact Mine.drewN M _) hb; clear M; have M := M2; clear M2; clear hb; )
      | (go_at_call 21; refine (two_any _ _ (by omega) (by omega)).mono ?_; rintro e w1 ⟨rfl, hb⟩; have M2 := Mine.next (by first | exact M | exact Mine.alloc M _ _ | exact Mine.alloc (Mine.alloc M _ _) _ _ | exact Mine.drewN M _) hb; clear M; have M := M2; clear M2; clear hb; )
      | (go_at_call 13; (with_reducible refine (hA _).mono ?_); rintro e w1 ⟨rfl, hb⟩; have M2 := Mine.next (by first | exact M | exact Mine.alloc M _ _ | exact Mine.alloc (Mine.alloc M _ _) _ _ | exact Mine.drewN M _) hb; clear M; have M := M2; clear M2; clear hb; )
      | (go_at_call 13; (with_reducible refine (hB _).mono ?_); rintro e w1 ⟨rfl, hb⟩; have M2 := Mine.next (by first | exact M | exact Mine.alloc M _ _ | exact Mine.alloc (Mine.alloc M _ _) _ _ | exact Mine.drewN M _) hb; clear M; have M := M2; clear M2; clear hb; )
      | (go_at_call 13; (with_reducible refine (hC _).mono ?_); rintro e w1 ⟨rfl, hb⟩; have M2 := Mine.next (by first | exact M | exact Mine.alloc M _ _ | exact Mine.alloc (Mine.alloc M _ _) _ _ | exact Mine.drewN M _) hb; clear M; have M := M2; clear M2; clear hb; )
      | (go_at_call 13; (with_reducible refine (hD _).mono ?_); rintro e w1 ⟨rfl, hb⟩; have M2 := Mine.next (by first | exact M | exact Mine.alloc M _ _ | exact Mine.alloc (Mine.alloc M _ _) _ _ | exact Mine.drewN M _) hb; clear M; have M := M2; clear M2; clear hb; ))
    go_ret
    exact ⟨rfl, M.low⟩
  · exfalso; omega
set_option maxHeartbeats 4000000 in
theorem zones_any (t : Int) (_w0 : (Lit.int .i64 t).wf = true) (h : Int) (_w1 : (Lit.int .i64 h).wf = true) (m : Int) (_w2 : (Lit.int .i64 m).wf = true) (w : World) (ht : Tab w) :
    Calls Tryd.prog 6 #[.int .i64 t, .int .i64 h, .int .i64 m] w fun e w' => e = .returned (.bool true) ∧ Below w.heap.size w w' := by
  by_cases k : t < 0 ∨ 253402300799 < t ∨ h < 0 ∨ 23 < h ∨ m < 0 ∨ 59 < m
  · rcases k with k | k | k | k | k | k
    all_goals
      have M := Mine.start w
      go_enter Tryd.func6, Tryd.ntmps6
      go_wp2_with (first
        | (go_at_call 8; refine (awake_any _ (Tab.next ht (Mine.low (by first | exact M | exact Mine.alloc M _ _ | exact Mine.alloc (Mine.alloc M _ _) _ _ | exact Mine.drewN M _)))).mono ?_; rintro e w1 ⟨rfl, hb⟩; have M2 := Mine.next (by first | exact M | exact Mine.alloc M _ _ | exact Mine.alloc (Mine.alloc M _ _) _ _ | exact Mine.drewN M _) hb; clear M; have M := M2; clear M2; clear hb; ))
      all_goals
        go_ret
        exact ⟨rfl, M.low⟩
  · exact zones_in t h m w ht (by omega) (by omega) (by omega) (by omega) (by omega) (by omega)
end Go.Proofs.YtfbpadkjfdedeaaDoor
