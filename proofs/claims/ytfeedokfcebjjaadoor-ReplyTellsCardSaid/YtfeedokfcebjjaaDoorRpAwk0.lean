/-
  Walks of the package reply: awake, its facts.
-/
import Derived.Test.YtfeedokfcebjjaaDoorRpCal
import Derived.Test.YtfeedokfcebjjaaDoorRpLine
import Derived.Test.YtfeedokfcebjjaaDoorRpPrint
import Derived.Test.YtfeedokfcebjjaaDoorRpSame
import Derived.KernelRfl
set_option linter.unusedVariables false
set_option linter.unusedSimpArgs false
namespace Go.Proofs.YtfeedokfcebjjaaDoor
open Go.RowKit
set_option maxRecDepth 100000
attribute [local go_sem] equal3
theorem awk1 : Rp.prs 0 0 [(⟨#[50, 53, 48, 45, 50, 46, 48, 46, 48, 32, 97]⟩ : ByteArray), (⟨#[50, 53, 48, 32, 50, 46, 48, 46, 48, 32, 98]⟩ : ByteArray), (⟨#[120]⟩ : ByteArray)] = (0, 2, 250) := by kernel_rfl
theorem awk2 : Rp.body 250 (([(⟨#[50, 53, 48, 45, 50, 46, 48, 46, 48, 32, 97]⟩ : ByteArray), (⟨#[50, 53, 48, 32, 50, 46, 48, 46, 48, 32, 98]⟩ : ByteArray), (⟨#[120]⟩ : ByteArray)].take 2).map Rp.say) = ((2, 0, 0), [(⟨#[97]⟩ : ByteArray), (⟨#[98]⟩ : ByteArray)]) := by kernel_rfl
theorem awk3 : Rp.prs 0 0 [(⟨#[50, 53, 48, 45, 97]⟩ : ByteArray)] = (12, 0, 0) := by kernel_rfl
theorem awk4 : Rp.prs 0 0 [(⟨#[50, 53, 48, 45, 97]⟩ : ByteArray), (⟨#[50, 53, 49, 32, 98]⟩ : ByteArray)] = (2, 0, 0) := by kernel_rfl
theorem awk5 : Rp.right 250 2 0 0 [(⟨#[97]⟩ : ByteArray), (⟨#[98]⟩ : ByteArray)] = 0 := by kernel_rfl
theorem awk6 : Rp.prn 250 2 0 0 [(⟨#[97]⟩ : ByteArray), (⟨#[98]⟩ : ByteArray)] = [(⟨#[50, 53, 48, 45, 50, 46, 48, 46, 48, 32, 97]⟩ : ByteArray), (⟨#[50, 53, 48, 32, 50, 46, 48, 46, 48, 32, 98]⟩ : ByteArray)] := by kernel_rfl
theorem awk7 : Rp.rd 550 ((⟨#[53, 46, 49, 46, 49]⟩ : ByteArray) ++ (⟨#[32]⟩ : ByteArray)).data.toList = (5, 1, 1, [], true) := by kernel_rfl
theorem awk8 : Rp.right 550 5 1 1 [(⟨#[110, 111]⟩ : ByteArray)] = 0 := by kernel_rfl
theorem awk9 : Rp.rd 550 ((⟨#[50, 46, 48, 46, 48]⟩ : ByteArray) ++ (⟨#[32]⟩ : ByteArray)).data.toList = (0, 0, 0, [], false) := by kernel_rfl
theorem awk10 : Rp.same 250 2 0 0 [(⟨#[97]⟩ : ByteArray), (⟨#[98]⟩ : ByteArray)] 250 2 0 0 [(⟨#[97]⟩ : ByteArray), (⟨#[98]⟩ : ByteArray)] = true := by kernel_rfl
theorem awk11 : Rp.same 250 2 0 0 [(⟨#[97]⟩ : ByteArray), (⟨#[98]⟩ : ByteArray)] 550 5 1 1 [(⟨#[110, 111]⟩ : ByteArray)] = false := by kernel_rfl
end Go.Proofs.YtfeedokfcebjjaaDoor
