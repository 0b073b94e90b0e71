/-
  Walks of the package reply: the reference's number.
-/
import Derived.Test.YtfeedokfcebjjaaDoorRrNum
import Derived.Test.YtfeedokfcebjjaaDoorRrC
set_option linter.unusedVariables false
set_option linter.unusedSimpArgs false
namespace Go.Proofs.YtfeedokfcebjjaaDoor
open Go.RowKit
set_option maxRecDepth 100000
attribute [local go_sem] equal3
theorem numAt_none {s u : List UInt8} {a j : Nat} (hu : s.drop a = u) (hp : Rr.pre u = u.take j) (hj : j ≤ u.length) (h : j = 0 ∨ 3 < j ∨ (1 < j ∧ u[0]? = some 48)) : Rr.numAt s a = (0, -1) := by
  have hl : (Rr.pre u).length = j := by rw [hp, List.length_take]; omega
  unfold Rr.numAt Rr.num
  rw [hu, hl, if_pos (by rw [List.head?_eq_getElem?]; exact h)]
theorem numAt_some {s u : List UInt8} {a j : Nat} (hu : s.drop a = u) (hp : Rr.pre u = u.take j) (hj : j ≤ u.length) (h : ¬ (j = 0 ∨ 3 < j ∨ (1 < j ∧ u[0]? = some 48))) : Rr.numAt s a = (Rr.dec (u.take j), ((a + j : Nat) : Int)) := by
  have hl : (Rr.pre u).length = j := by rw [hp, List.length_take]; omega
  unfold Rr.numAt Rr.num
  rw [hu, hl, if_neg (by rw [List.head?_eq_getElem?]; exact h)]
  simp only
  rw [hp]
set_option maxHeartbeats 8000000 in
theorem number_at (s : ByteArray) (at_ : Nat) (w : World) (hs : s.size ≤ 1000000000) (ha : at_ ≤ s.size) :
    Calls Tryd.prog 51 #[.string s, .int .i64 (at_ : Int)] w fun e w' => e = .returned (.tuple #[.int .i64 (Rr.numAt s.data.toList at_).1, .int .i64 (Rr.numAt s.data.toList at_).2]) ∧ w' = w := by
  have hl : s.data.toList.length = s.size := by simp
  obtain ⟨u, hu⟩ : ∃ u, s.data.toList.drop at_ = u := ⟨_, rfl⟩
  have hul : u.length = s.size - at_ := by rw [← hu, List.length_drop, hl]
  have hat : ∀ p, (hp : p < s.size) → at_ ≤ p → ∀ x, s[p]'hp = x → u[p - at_]? = some x := fun p hp hap x hx => by
    rw [← hu, List.getElem?_drop, show at_ + (p - at_) = p by omega]
    exact List.getElem?_eq_some_iff.2 ⟨by omega, at_list s p hp x hx⟩
  have HAT := Aside.mk hat
  have HU := Lib.hid hu
  clear hat hu
  go_enter Tryd.func51, Tryd.ntmps51
  go_wp2
  go_loopw [6, 7] (fun n i wr => ∃ p : Nat, at_ ≤ p ∧ p ≤ at_ + 4 ∧ p ≤ s.size ∧ i = .int .i64 (p : Int) ∧ n = .int .i64 (Rr.dec (u.take (p - at_))) ∧ (u.take (p - at_)).all Rp.dgt = true ∧ wr = w) (fun _ i _ => s.size - (intOf i).toNat)
  case atStart => exact ⟨at_, by omega, by omega, by omega, rfl, by simp [Rr.dec], by simp, rfl⟩
  case round =>
    obtain ⟨p, hp0, hp4, hps, rfl, rfl, hall, rfl⟩ := hrel
    have HA := Lib.hid hall
    have hdec := Rr.dec_bound _ hall (by rw [List.length_take]; omega)
    clear hall
    by_cases hlt : p < s.size
    · by_cases h4 : p < at_ + 4
      · obtain ⟨x, hx⟩ : ∃ x, s[p]'hlt = x := ⟨_, rfl⟩
        have hux := HAT.out p hlt hp0 x hx
        obtain ⟨huj, hux2⟩ := List.getElem?_eq_some_iff.1 hux
        by_cases h1 : (x.toNat : Int) < 48
        · have HP := Lib.hid (Rr.pre_stop (u := u) HA.out (by omega) (by omega) (.inr (.inr ⟨x, hux, by simp [Rp.dgt]; omega⟩)))
          clear hux hux2
          by_cases j0 : p = at_
          · have HR := Lib.hid (numAt_none HU.out HP.out (by omega) (.inl (by omega)))
            generalize Rr.dec (u.take (p - at_)) = d at hdec
            subst j0
            go_wp2
            all_goals (go_ret2; exact ⟨by first | (rw [HR.out]; done) | (rw [HR.out]; rfl), rfl⟩)
          · have e0 : ((p : Int) == (at_ : Int)) = false := by simp; omega
            have e1 : (p == at_) = false := by simp; omega
            by_cases j3 : (3 : Int) < (p : Int) - (at_ : Int)
            · have HR := Lib.hid (numAt_none HU.out HP.out (by omega) (.inr (.inl (by omega))))
              generalize Rr.dec (u.take (p - at_)) = d at hdec
              go_wp2
              all_goals (go_ret2; exact ⟨by first | (rw [HR.out]; done) | (rw [HR.out]; rfl), rfl⟩)
            · by_cases j1 : (1 : Int) < (p : Int) - (at_ : Int)
              · obtain ⟨y, hy⟩ : ∃ y, s[at_]'(by omega) = y := ⟨_, rfl⟩
                have huy := HAT.out at_ (by omega) (Nat.le_refl _) y hy
                rw [Nat.sub_self] at huy
                by_cases y48 : (y.toNat : Int) = 48
                · have HR := Lib.hid (numAt_none HU.out HP.out (by omega) (.inr (.inr ⟨by omega, by rw [huy, Rr.byte_ext (x := y) (y := 48) (by rw [y48]; rfl)]⟩)))
                  have f0 : ((y.toNat : Int) == 48) = true := by simpa using y48
                  clear huy
                  generalize Rr.dec (u.take (p - at_)) = d at hdec
                  go_wp2
                  all_goals (go_ret2; exact ⟨by first | (rw [HR.out]; done) | (rw [HR.out]; rfl), rfl⟩)
                · have HR := Lib.hid (numAt_some HU.out HP.out (by omega) (by
                    rintro (q | q | ⟨q, q2⟩)
                    · omega
                    · omega
                    · rw [huy] at q2; injection q2 with q2; rw [q2] at y48; exact y48 rfl))
                  have f0 : ((y.toNat : Int) == 48) = false := by simpa using y48
                  clear huy
                  have hd2 := Lib.hid (rfl : Rr.dec (u.take (p - at_)) = Rr.dec (u.take (p - at_)))
                  have hpp := Lib.hid (show at_ + (p - at_) = p by omega)
                  rw [hpp.out] at HR
                  generalize Rr.dec (u.take (p - at_)) = d at hdec HR
                  go_wp2
                  all_goals (go_ret2; exact ⟨by first | (rw [HR.out]; done) | (rw [HR.out]; rfl), rfl⟩)
              · have HR := Lib.hid (numAt_some HU.out HP.out (by omega) (by
                  rintro (q | q | ⟨q, q2⟩) <;> omega))
                have hpp := Lib.hid (show at_ + (p - at_) = p by omega)
                rw [hpp.out] at HR
                generalize Rr.dec (u.take (p - at_)) = d at hdec HR
                go_wp2
                all_goals (go_ret2; exact ⟨by first | (rw [HR.out]; done) | (rw [HR.out]; rfl), rfl⟩)
        · by_cases h2 : (57 : Int) < (x.toNat : Int)
          · have HP := Lib.hid (Rr.pre_stop (u := u) HA.out (by omega) (by omega) (.inr (.inr ⟨x, hux, by simp [Rp.dgt]; omega⟩)))
            clear hux hux2
            by_cases j0 : p = at_
            · have HR := Lib.hid (numAt_none HU.out HP.out (by omega) (.inl (by omega)))
              generalize Rr.dec (u.take (p - at_)) = d at hdec
              subst j0
              go_wp2
              all_goals (go_ret2; exact ⟨by first | (rw [HR.out]; done) | (rw [HR.out]; rfl), rfl⟩)
            · have e0 : ((p : Int) == (at_ : Int)) = false := by simp; omega
              have e1 : (p == at_) = false := by simp; omega
              by_cases j3 : (3 : Int) < (p : Int) - (at_ : Int)
              · have HR := Lib.hid (numAt_none HU.out HP.out (by omega) (.inr (.inl (by omega))))
                generalize Rr.dec (u.take (p - at_)) = d at hdec
                go_wp2
                all_goals (go_ret2; exact ⟨by first | (rw [HR.out]; done) | (rw [HR.out]; rfl), rfl⟩)
              · by_cases j1 : (1 : Int) < (p : Int) - (at_ : Int)
                · obtain ⟨y, hy⟩ : ∃ y, s[at_]'(by omega) = y := ⟨_, rfl⟩
                  have huy := HAT.out at_ (by omega) (Nat.le_refl _) y hy
                  rw [Nat.sub_self] at huy
                  by_cases y48 : (y.toNat : Int) = 48
                  · have HR := Lib.hid (numAt_none HU.out HP.out (by omega) (.inr (.inr ⟨by omega, by rw [huy, Rr.byte_ext (x := y) (y := 48) (by rw [y48]; rfl)]⟩)))
                    have f0 : ((y.toNat : Int) == 48) = true := by simpa using y48
                    clear huy
                    generalize Rr.dec (u.take (p - at_)) = d at hdec
                    go_wp2
                    all_goals (go_ret2; exact ⟨by first | (rw [HR.out]; done) | (rw [HR.out]; rfl), rfl⟩)
                  · have HR := Lib.hid (numAt_some HU.out HP.out (by omega) (by
                      rintro (q | q | ⟨q, q2⟩)
                      · omega
                      · omega
                      · rw [huy] at q2; injection q2 with q2; rw [q2] at y48; exact y48 rfl))
                    have f0 : ((y.toNat : Int) == 48) = false := by simpa using y48
                    clear huy
                    have hd2 := Lib.hid (rfl : Rr.dec (u.take (p - at_)) = Rr.dec (u.take (p - at_)))
                    have hpp := Lib.hid (show at_ + (p - at_) = p by omega)
                    rw [hpp.out] at HR
                    generalize Rr.dec (u.take (p - at_)) = d at hdec HR
                    go_wp2
                    all_goals (go_ret2; exact ⟨by first | (rw [HR.out]; done) | (rw [HR.out]; rfl), rfl⟩)
                · have HR := Lib.hid (numAt_some HU.out HP.out (by omega) (by
                    rintro (q | q | ⟨q, q2⟩) <;> omega))
                  have hpp := Lib.hid (show at_ + (p - at_) = p by omega)
                  rw [hpp.out] at HR
                  generalize Rr.dec (u.take (p - at_)) = d at hdec HR
                  go_wp2
                  all_goals (go_ret2; exact ⟨by first | (rw [HR.out]; done) | (rw [HR.out]; rfl), rfl⟩)
          · have HT := Lib.hid (List.take_succ_eq_append_getElem (l := u) (i := p - at_) huj)
            have HX := Lib.hid hux2
            have HD : Hid (Rr.dec (u.take (p + 1 - at_)) = Rr.dec (u.take (p - at_)) * 10 + ((x.toNat : Int) - 48)) := Lib.hid (by rw [show p + 1 - at_ = p - at_ + 1 by omega, HT.out, HX.out, Rr.dec_snoc])
            have HA2 : Hid ((u.take (p + 1 - at_)).all Rp.dgt = true) := Lib.hid (by rw [show p + 1 - at_ = p - at_ + 1 by omega, HT.out, HX.out, List.all_append, HA.out]; simp [Rp.dgt]; omega)
            clear hux hux2
            generalize Rr.dec (u.take (p - at_)) = d at hdec HD
            go_wp2
            go_roundw
            case rel => exact ⟨p + 1, by omega, by omega, by omega, by go_num, by first | (rw [HD.out]; done) | (rw [HD.out]; go_num), HA2.out, by trivial⟩
            case measure => simp [intOf]; omega
      · have HP := Lib.hid (Rr.pre_stop (u := u) HA.out (by omega) (by omega) (.inl (by omega)))
        by_cases j0 : p = at_
        · have HR := Lib.hid (numAt_none HU.out HP.out (by omega) (.inl (by omega)))
          generalize Rr.dec (u.take (p - at_)) = d at hdec
          subst j0
          go_wp2
          all_goals (go_ret2; exact ⟨by first | (rw [HR.out]; done) | (rw [HR.out]; rfl), rfl⟩)
        · have e0 : ((p : Int) == (at_ : Int)) = false := by simp; omega
          have e1 : (p == at_) = false := by simp; omega
          by_cases j3 : (3 : Int) < (p : Int) - (at_ : Int)
          · have HR := Lib.hid (numAt_none HU.out HP.out (by omega) (.inr (.inl (by omega))))
            generalize Rr.dec (u.take (p - at_)) = d at hdec
            go_wp2
            all_goals (go_ret2; exact ⟨by first | (rw [HR.out]; done) | (rw [HR.out]; rfl), rfl⟩)
          · by_cases j1 : (1 : Int) < (p : Int) - (at_ : Int)
            · obtain ⟨y, hy⟩ : ∃ y, s[at_]'(by omega) = y := ⟨_, rfl⟩
              have huy := HAT.out at_ (by omega) (Nat.le_refl _) y hy
              rw [Nat.sub_self] at huy
              by_cases y48 : (y.toNat : Int) = 48
              · have HR := Lib.hid (numAt_none HU.out HP.out (by omega) (.inr (.inr ⟨by omega, by rw [huy, Rr.byte_ext (x := y) (y := 48) (by rw [y48]; rfl)]⟩)))
                have f0 : ((y.toNat : Int) == 48) = true := by simpa using y48
                clear huy
                generalize Rr.dec (u.take (p - at_)) = d at hdec
                go_wp2
                all_goals (go_ret2; exact ⟨by first | (rw [HR.out]; done) | (rw [HR.out]; rfl), rfl⟩)
              · have HR := Lib.hid (numAt_some HU.out HP.out (by omega) (by
                  rintro (q | q | ⟨q, q2⟩)
                  · omega
                  · omega
                  · rw [huy] at q2; injection q2 with q2; rw [q2] at y48; exact y48 rfl))
                have f0 : ((y.toNat : Int) == 48) = false := by simpa using y48
                clear huy
                have hd2 := Lib.hid (rfl : Rr.dec (u.take (p - at_)) = Rr.dec (u.take (p - at_)))
                have hpp := Lib.hid (show at_ + (p - at_) = p by omega)
                rw [hpp.out] at HR
                generalize Rr.dec (u.take (p - at_)) = d at hdec HR
                go_wp2
                all_goals (go_ret2; exact ⟨by first | (rw [HR.out]; done) | (rw [HR.out]; rfl), rfl⟩)
            · have HR := Lib.hid (numAt_some HU.out HP.out (by omega) (by
                rintro (q | q | ⟨q, q2⟩) <;> omega))
              have hpp := Lib.hid (show at_ + (p - at_) = p by omega)
              rw [hpp.out] at HR
              generalize Rr.dec (u.take (p - at_)) = d at hdec HR
              go_wp2
              all_goals (go_ret2; exact ⟨by first | (rw [HR.out]; done) | (rw [HR.out]; rfl), rfl⟩)
    · have HP := Lib.hid (Rr.pre_stop (u := u) HA.out (by omega) (by omega) (.inr (.inl (by omega))))
      by_cases j0 : p = at_
      · have HR := Lib.hid (numAt_none HU.out HP.out (by omega) (.inl (by omega)))
        generalize Rr.dec (u.take (p - at_)) = d at hdec
        subst j0
        go_wp2
        all_goals (go_ret2; exact ⟨by first | (rw [HR.out]; done) | (rw [HR.out]; rfl), rfl⟩)
      · have e0 : ((p : Int) == (at_ : Int)) = false := by simp; omega
        have e1 : (p == at_) = false := by simp; omega
        by_cases j3 : (3 : Int) < (p : Int) - (at_ : Int)
        · have HR := Lib.hid (numAt_none HU.out HP.out (by omega) (.inr (.inl (by omega))))
          generalize Rr.dec (u.take (p - at_)) = d at hdec
          go_wp2
          all_goals (go_ret2; exact ⟨by first | (rw [HR.out]; done) | (rw [HR.out]; rfl), rfl⟩)
        · by_cases j1 : (1 : Int) < (p : Int) - (at_ : Int)
          · obtain ⟨y, hy⟩ : ∃ y, s[at_]'(by omega) = y := ⟨_, rfl⟩
            have huy := HAT.out at_ (by omega) (Nat.le_refl _) y hy
            rw [Nat.sub_self] at huy
            by_cases y48 : (y.toNat : Int) = 48
            · have HR := Lib.hid (numAt_none HU.out HP.out (by omega) (.inr (.inr ⟨by omega, by rw [huy, Rr.byte_ext (x := y) (y := 48) (by rw [y48]; rfl)]⟩)))
              have f0 : ((y.toNat : Int) == 48) = true := by simpa using y48
              clear huy
              generalize Rr.dec (u.take (p - at_)) = d at hdec
              go_wp2
              all_goals (go_ret2; exact ⟨by first | (rw [HR.out]; done) | (rw [HR.out]; rfl), rfl⟩)
            · have HR := Lib.hid (numAt_some HU.out HP.out (by omega) (by
                rintro (q | q | ⟨q, q2⟩)
                · omega
                · omega
                · rw [huy] at q2; injection q2 with q2; rw [q2] at y48; exact y48 rfl))
              have f0 : ((y.toNat : Int) == 48) = false := by simpa using y48
              clear huy
              have hd2 := Lib.hid (rfl : Rr.dec (u.take (p - at_)) = Rr.dec (u.take (p - at_)))
              have hpp := Lib.hid (show at_ + (p - at_) = p by omega)
              rw [hpp.out] at HR
              generalize Rr.dec (u.take (p - at_)) = d at hdec HR
              go_wp2
              all_goals (go_ret2; exact ⟨by first | (rw [HR.out]; done) | (rw [HR.out]; rfl), rfl⟩)
          · have HR := Lib.hid (numAt_some HU.out HP.out (by omega) (by
              rintro (q | q | ⟨q, q2⟩) <;> omega))
            have hpp := Lib.hid (show at_ + (p - at_) = p by omega)
            rw [hpp.out] at HR
            generalize Rr.dec (u.take (p - at_)) = d at hdec HR
            go_wp2
            all_goals (go_ret2; exact ⟨by first | (rw [HR.out]; done) | (rw [HR.out]; rfl), rfl⟩)
end Go.Proofs.YtfeedokfcebjjaaDoor
