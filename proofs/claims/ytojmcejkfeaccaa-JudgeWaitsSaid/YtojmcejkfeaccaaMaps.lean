/-
  Maps with texts as keys, laid out whole: what a literal's entries leave, and what a look-up finds.
-/
import Derived.Test.YtojmcejkfeaccaaMem2
import Derived.MapKept
set_option linter.unusedVariables false
set_option linter.unusedSimpArgs false
namespace Go.Proofs.Ytojmcejkfeaccaa
open Go.RowKit Go.MapKept
theorem mapUpdate_at {P : Program} {T K E : TypeId} (hT : P.underlying T = some (.map K E)) (hK : P.underlying K = some .string) {w : World} {r : Nat} {es : Array MapEntry} {c : Nat} (hb : w.heap[r]? = some (.map es c)) (k : ByteArray) (v : Value)
    (hf : Instr.findNow .string (.string k) es.toList 0 = some none) :
    (Instr.mapUpdate T (.map (some r)) (.string k) v).run P w = .ok () { w with heap := w.heap.setIfInBounds r (.map (es.push ⟨.string k, v, c⟩) (c + 1)) } := by
  have h1 := Go.MapKept.run_getObj_map (P := P) hb
  have h2 := run_checkKey (P := P) (w := w) hK (k := .string k) trivial false 9999
  have h3 := run_findKey (P := P) (w := w) hK hf
  have h4 := run_setObj_map (P := P) (.map (es.push ⟨.string k, v, c⟩) (c + 1)) hb
  unfold Instr.mapUpdate
  simp only [Sem.run_bind, run_underlying hT, Result.andThen_ok, h1, h2, h3]
  exact h4
theorem mapUpdate_new {P : Program} {T K E : TypeId} (hT : P.underlying T = some (.map K E)) (hK : P.underlying K = some .string) (w : World) (es : Array MapEntry) (c : Nat) (k : ByteArray) (v : Value)
    (hf : Instr.findNow .string (.string k) es.toList 0 = some none) :
    (Instr.mapUpdate T (.map (some w.heap.size)) (.string k) v).run P (w.alloc (.map es c)) = .ok () (w.alloc (.map (es.push ⟨.string k, v, c⟩) (c + 1))) := by
  rw [mapUpdate_at hT hK (heap_alloc_new w (.map es c)) k v hf]
  congr 1
  show ({ w with heap := (w.heap.push _).setIfInBounds w.heap.size _ } : World) = { w with heap := w.heap.push _ }
  congr 1
  apply Array.ext_getElem?
  intro i
  rw [Array.getElem?_setIfInBounds, Array.getElem?_push, Array.getElem?_push, Array.size_push]
  split <;> split <;> simp_all
theorem lookup_str {P : Program} {T K E : TypeId} (hT : P.underlying T = some (.map K E)) (hK : P.underlying K = some .string) {w : World} {r : Nat} {es : Array MapEntry} {c : Nat} (hb : w.heap[r]? = some (.map es c)) (k : ByteArray) (i : Nat) (v : Value)
    (hf : Instr.findNow .string (.string k) es.toList 0 = some (some (i, v))) :
    (Instr.lookup T (.map (some r)) (.string k) false).run P w = .ok v w := by
  have h1 := Go.MapKept.run_getObj_map (P := P) hb
  have h2 := run_checkKey (P := P) (w := w) hK (k := .string k) trivial es.isEmpty 9999
  have h3 := run_findKey (P := P) (w := w) hK hf
  unfold Instr.lookup
  simp only [Sem.run_bind, run_underlying hT, Result.andThen_ok, h1, h2, h3, Sem.run_pure]
  rfl
theorem lookup_str_ok {P : Program} {T K E : TypeId} (hT : P.underlying T = some (.map K E)) (hK : P.underlying K = some .string) {w : World} {r : Nat} {es : Array MapEntry} {c : Nat} (hb : w.heap[r]? = some (.map es c)) (k : ByteArray) (i : Nat) (v : Value)
    (hf : Instr.findNow .string (.string k) es.toList 0 = some (some (i, v))) :
    (Instr.lookup T (.map (some r)) (.string k) true).run P w = .ok (.tuple #[v, .bool true]) w := by
  have h1 := Go.MapKept.run_getObj_map (P := P) hb
  have h2 := run_checkKey (P := P) (w := w) hK (k := .string k) trivial es.isEmpty 9999
  have h3 := run_findKey (P := P) (w := w) hK hf
  unfold Instr.lookup
  simp only [Sem.run_bind, run_underlying hT, Result.andThen_ok, h1, h2, h3, Sem.run_pure]
  rfl
theorem lookup_str_none {P : Program} {T K E : TypeId} (hT : P.underlying T = some (.map K E)) (hK : P.underlying K = some .string) {w : World} {r : Nat} {es : Array MapEntry} {c : Nat} (hb : w.heap[r]? = some (.map es c)) (k : ByteArray) (z : Value)
    (hz : (zeroValue E).run P w = .ok z w) (hf : Instr.findNow .string (.string k) es.toList 0 = some none) :
    (Instr.lookup T (.map (some r)) (.string k) true).run P w = .ok (.tuple #[z, .bool false]) w := by
  have h1 := Go.MapKept.run_getObj_map (P := P) hb
  have h2 := run_checkKey (P := P) (w := w) hK (k := .string k) trivial es.isEmpty 9999
  have h3 := run_findKey (P := P) (w := w) hK hf
  unfold Instr.lookup
  simp only [Sem.run_bind, run_underlying hT, Result.andThen_ok, h1, h2, h3, hz, Sem.run_pure]
  rfl
end Go.Proofs.Ytojmcejkfeaccaa
