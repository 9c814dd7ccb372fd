/- Blocks that are made, and what stays as it was. -/
import Derived.Test.YtmoplcchiadlpaaDoorJcMem
set_option linter.unusedVariables false
set_option linter.unusedSimpArgs false
namespace Go.Proofs.YtmoplcchiadlpaaDoor.Jc
open Go Go.RowKit Go.ChangeMaps Go.Proofs.YtmoplcchiadlpaaDoorW.PrintWords

theorem alloc_size (w : World) (o : Obj) : (w.alloc o).heap.size = w.heap.size + 1 := by simp
theorem alloc_at (w : World) (o : Obj) : (w.alloc o).heap[w.heap.size]? = some o := by
  show (w.heap.push o)[w.heap.size]? = some o
  simp
theorem alloc_old {w : World} {b : Nat} {o p : Obj} (h : w.heap[b]? = some p) : (w.alloc o).heap[b]? = some p := (heap_alloc_old _ _ (blk_lt' h)).trans h
/-- All blocks but one that is new, and newer ones, are as they were. -/
theorem grown_low {w0 w w1 : World} {b : Nat} (h0 : Below w0.heap.size w0 w) (h : w.grownBy w1 (some b)) (hb : w0.heap.size ≤ b) : Below w0.heap.size w0 w1 :=
  h0.trans ⟨h.os, h.tape, h.output, h.size, fun i hi => by
    by_cases hw : i < w.heap.size
    · exact h.block i hw (by simp; omega)
    · have := h0.size
      omega⟩
theorem below_alloc {w0 w : World} (h0 : Below w0.heap.size w0 w) (o : Obj) : Below w0.heap.size w0 (w.alloc o) := h0.alloc h0.size _
theorem below_set {w0 w : World} {b : Nat} (h0 : Below w0.heap.size w0 w) (hb : w0.heap.size ≤ b) (i : Nat) (v : Value) : Below w0.heap.size w0 (w.setCell ⟨b, i, none⟩ v) := h0.setCell hb v
theorem set_other {w : World} {b k : Nat} {o : Obj} (h : w.heap[b]? = some o) (hne : k ≠ b) (i : Nat) (v : Value) : (w.setCell ⟨k, i, none⟩ v).heap[b]? = some o := by
  rw [← h]
  simp [World.setCell, Array.getElem?_modify, hne]
theorem below_drewR {B : Nat} {w w1 : World} (h : Below B w w1) : Below B w w1.drew := ⟨h.os, h.tape, h.output, h.size, h.block⟩
end Go.Proofs.YtmoplcchiadlpaaDoor.Jc
