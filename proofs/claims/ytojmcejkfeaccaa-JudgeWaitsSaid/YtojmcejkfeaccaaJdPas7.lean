/-
  Walks of the package judge: what time's passing does, in one contract.
-/
import Derived.Test.YtojmcejkfeaccaaJdPas3
import Derived.Test.YtojmcejkfeaccaaJdPas4
import Derived.Test.YtojmcejkfeaccaaJdPas5
import Derived.Test.YtojmcejkfeaccaaJdPas6
import Derived.Test.YtojmcejkfeaccaaJdLaw
set_option linter.unusedVariables false
set_option linter.unusedSimpArgs false
namespace Go.Proofs.Ytojmcejkfeaccaa
open Go.RowKit JdLaw
theorem pass_all (b mo li wa : Int) (m : JdMsg.Msg) (pl : Nat) (st : ByteArray) (tr nx td now : Int) (nf : ByteArray) (ab ao : Nat) (w : World)
    (h1 : 0 ≤ m.at_) (h2 : m.at_ ≤ 1099511627776) (h3 : 0 ≤ li) (h4 : li ≤ 1073741824) (h5 : -999999999 ≤ m.by_) (h6 : m.by_ ≤ 999999999) (h7 : 0 ≤ now) (h8 : now ≤ 1099511627776) (h9 : 0 ≤ wa) (h10 : wa ≤ 1073741824)
    (hA : m.rA = some ⟨ab, ao, none⟩) (hpl : pl < m.rn) (hrn : m.rn ≤ 1000000) (hnf : w.cell? ⟨ab, ao + pl * 5 + 2, none⟩ = some (.string nf)) :
    Calls Try.prog 17 #[.agg #[.int .i64 b, .int .i64 mo, .int .i64 li, .int .i64 wa], .agg (mcs m), .agg #[.int .i64 pl, .string st, .int .i64 tr, .int .i64 nx, .int .i64 td], .int .i64 now] w fun e w' => ∃ v, e = .returned (.tuple #[.agg #[.int .i64 pl, .string (JdLaw.jPass li wa m.at_ m.by_ td now m.hby m.fl m.fd m.mode nf st).1, .int .i64 tr, .int .i64 nx, .int .i64 (JdLaw.jPass li wa m.at_ m.by_ td now m.hby m.fl m.fd m.mode nf st).2.1], v]) ∧ Row w.heap.size w' v (JdLaw.jPass li wa m.at_ m.by_ td now m.hby m.fl m.fd m.mode nf st).2.2 ∧ Below w.heap.size w w' := by
  cases hby : m.hby with
  | false =>
    by_cases he : m.at_ + li ≤ now
    · rw [show JdLaw.jPass li wa m.at_ m.by_ td now false m.fl m.fd m.mode nf st = jOf (made m nf td 2 70 true false) ⟨#[70]⟩ td 2 ⟨#[102, 97, 105, 108, 101, 100]⟩ by unfold jPass jCome; simp [he]; rfl]
      exact pass_n1 b mo li wa m pl st tr nx td now nf ab ao w h1 h2 h3 h4 h5 h6 h7 h8 h9 h10 hA hpl hrn hnf (Lib.hid hby) he _ _ (Lib.hid rfl) (Lib.hid rfl)
    · by_cases hw : wa ≤ now - m.at_
      · rw [show JdLaw.jPass li wa m.at_ m.by_ td now false m.fl m.fd m.mode nf st = jOf (made m nf td 1 68 true false) st td 1 ⟨#[100, 101, 108, 97, 121, 101, 100]⟩ by unfold jPass jCome; simp [he, hw]; rfl]
        exact pass_n2 b mo li wa m pl st tr nx td now nf ab ao w h1 h2 h3 h4 h5 h6 h7 h8 h9 h10 hA hpl hrn hnf (Lib.hid hby) (by omega) hw _ _ (Lib.hid rfl) (Lib.hid rfl)
      · rw [show JdLaw.jPass li wa m.at_ m.by_ td now false m.fl m.fd m.mode nf st = (st, td, none) by unfold jPass jCome; simp [he, hw]]
        exact pass_n3 b mo li wa m pl st tr nx td now nf ab ao w h1 h2 h3 h4 h5 h6 h7 h8 h9 h10 hA hpl hrn hnf (Lib.hid hby) (by omega) (by omega)
  | true =>
    by_cases hc : m.at_ + m.by_ ≤ now
    · cases hr : Lib.hasPrefix m.mode.data.toList [82] with
      | true =>
        rw [show JdLaw.jPass li wa m.at_ m.by_ td now true m.fl m.fd m.mode nf st = jOf (made m nf td 2 70 true true) ⟨#[70]⟩ td 2 ⟨#[102, 97, 105, 108, 101, 100]⟩ by unfold jPass jCome; simp [hc, hr]; rfl]
        by_cases he : m.at_ + li ≤ now
        · exact pass_r1 b mo li wa m pl st tr nx td now nf ab ao w h1 h2 h3 h4 h5 h6 h7 h8 h9 h10 hA hpl hrn hnf (Lib.hid hby) hc (Lib.hid hr) he _ _ (Lib.hid rfl) (Lib.hid rfl)
        · exact pass_r2 b mo li wa m pl st tr nx td now nf ab ao w h1 h2 h3 h4 h5 h6 h7 h8 h9 h10 hA hpl hrn hnf (Lib.hid hby) hc (Lib.hid hr) (by omega) _ _ (Lib.hid rfl) (Lib.hid rfl)
      | false =>
        by_cases he : m.at_ + li ≤ now
        · rw [show JdLaw.jPass li wa m.at_ m.by_ td now true m.fl m.fd m.mode nf st = jOf (made m nf td 2 70 true false) ⟨#[70]⟩ td 2 ⟨#[102, 97, 105, 108, 101, 100]⟩ by unfold jPass jCome; simp [hc, hr, he]; rfl]
          exact pass_l1 b mo li wa m pl st tr nx td now nf ab ao w h1 h2 h3 h4 h5 h6 h7 h8 h9 h10 hA hpl hrn hnf (Lib.hid hby) hc (Lib.hid hr) he _ _ (Lib.hid rfl) (Lib.hid rfl)
        · rw [show JdLaw.jPass li wa m.at_ m.by_ td now true m.fl m.fd m.mode nf st = jOf (made m nf td 1 68 true true) st td 1 ⟨#[100, 101, 108, 97, 121, 101, 100]⟩ by unfold jPass jCome; simp [hc, hr, he]; rfl]
          exact pass_l2 b mo li wa m pl st tr nx td now nf ab ao w h1 h2 h3 h4 h5 h6 h7 h8 h9 h10 hA hpl hrn hnf (Lib.hid hby) hc (Lib.hid hr) (by omega) _ _ (Lib.hid rfl) (Lib.hid rfl)
    · by_cases he : m.at_ + li ≤ now
      · rw [show JdLaw.jPass li wa m.at_ m.by_ td now true m.fl m.fd m.mode nf st = jOf (made m nf td 2 70 true false) ⟨#[70]⟩ td 2 ⟨#[102, 97, 105, 108, 101, 100]⟩ by unfold jPass jCome; simp [hc, he]; rfl]
        exact pass_w1 b mo li wa m pl st tr nx td now nf ab ao w h1 h2 h3 h4 h5 h6 h7 h8 h9 h10 hA hpl hrn hnf (Lib.hid hby) (by omega) he _ _ (Lib.hid rfl) (Lib.hid rfl)
      · by_cases hw : wa ≤ now - m.at_
        · rw [show JdLaw.jPass li wa m.at_ m.by_ td now true m.fl m.fd m.mode nf st = jOf (made m nf td 1 68 true false) st td 1 ⟨#[100, 101, 108, 97, 121, 101, 100]⟩ by unfold jPass jCome; simp [hc, he, hw]; rfl]
          exact pass_w2 b mo li wa m pl st tr nx td now nf ab ao w h1 h2 h3 h4 h5 h6 h7 h8 h9 h10 hA hpl hrn hnf (Lib.hid hby) (by omega) (by omega) hw _ _ (Lib.hid rfl) (Lib.hid rfl)
        · rw [show JdLaw.jPass li wa m.at_ m.by_ td now true m.fl m.fd m.mode nf st = (st, td, none) by unfold jPass jCome; simp [hc, he, hw]]
          exact pass_w3 b mo li wa m pl st tr nx td now nf ab ao w h1 h2 h3 h4 h5 h6 h7 h8 h9 h10 hA hpl hrn hnf (Lib.hid hby) (by omega) (by omega) (by omega)
end Go.Proofs.Ytojmcejkfeaccaa
