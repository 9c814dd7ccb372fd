/- How an instruction is handed to a Go function: its value, and its Args in memory. -/
import Derived.Test.YtmoplcchiadlpaaDoorJcSpec
import Derived.Test.YtmoplcchiadlpaaDoorJcMap
import Derived.Test.YtmoplcchiadlpaaDoorWWords
set_option linter.unusedVariables false
set_option linter.unusedSimpArgs false
namespace Go.Proofs.YtmoplcchiadlpaaDoor.Jc
open Go Go.RowKit Go.ChangeMaps Go.Proofs.YtmoplcchiadlpaaDoorW.PrintWords

def cellsM (m : M) (a : Option Addr) (c : Nat) : Array Value := #[.int .i64 m.op, .int .i64 m.d, .int .i64 m.e, .int .i64 m.a, .int .i64 m.b, .int .i64 m.c, .int .i32 m.imm, .slice a m.args.length c]
/-- Its Args lie in memory. -/
structure ArgsIn (w : World) (m : M) (a : Option Addr) (c : Nat) : Prop where
  reads : ReadsInt w .i64 a m.args.length m.args
  cap : m.args.length ≤ c

theorem ArgsIn.below {w w1 : World} {m : M} {a : Option Addr} {c : Nat} (h : ArgsIn w m a c) (hb : Below w.heap.size w w1) : ArgsIn w1 m a c := ⟨h.reads.below hb, h.cap⟩

/-- All old cells, and all old marks, are as before. -/
theorem bcell {W w1 : World} (hb : Below W.heap.size W w1) : (∀ b o, b < W.heap.size → w1.cell? ⟨b, o, none⟩ = W.cell? ⟨b, o, none⟩) ∧ (∀ b o, b < W.heap.size → w1.frozen? ⟨b, o, none⟩ = W.frozen? ⟨b, o, none⟩) :=
  ⟨fun b o h => hb.cell (p := ⟨b, o, none⟩) h, fun b o h => hb.frozen (p := ⟨b, o, none⟩) h⟩

theorem below_drew_left {B : Nat} {w w1 : World} (h : Below B w.drew w1) : Below B w w1 := ⟨h.os, h.tape, h.output, h.size, h.block⟩
theorem below_drewN_left {B n : Nat} {w w1 : World} (h : Below B (w.drewN n) w1) : Below B w w1 := ⟨h.os, h.tape, h.output, h.size, h.block⟩

/-- A string of bytes. -/
abbrev bs (l : List UInt8) : ByteArray := ⟨l.toArray⟩
theorem bs_append (a b : List UInt8) : bs a ++ bs b = bs (a ++ b) := by
  apply ByteArray.ext
  simp [ByteArray.data_append]

/-- A block of cells, known whole. -/
theorem cell_blk {w : World} {b : Nat} {cs : Array Value} {t : TypeId} {fr : Nat × Nat} (h : w.heap[b]? = some (.cells cs t fr)) (i : Nat) : w.cell? ⟨b, i, none⟩ = cs[i]? := by simp [World.cell?, h]
theorem froz_blk {w : World} {b : Nat} {cs : Array Value} {t : TypeId} (h : w.heap[b]? = some (.cells cs t (0, 0))) (i : Nat) : w.frozen? ⟨b, i, none⟩ = false := by simp [World.frozen?, h]
theorem blk_lt' {w : World} {b : Nat} {o : Obj} (h : w.heap[b]? = some o) : b < w.heap.size := (Array.getElem?_eq_some_iff.1 h).1
theorem grown_below {w w1 : World} (h : Below w.heap.size w w1) (row : Option Nat) : w.grownBy w1 row := ⟨h.os, h.tape, h.output, h.size, fun i hi _ => h.block i hi⟩
theorem grown_set {w w1 : World} {b : Nat} (h : w.grownBy w1 (some b)) (i : Nat) (v : Value) : w.grownBy (w1.setCell ⟨b, i, none⟩ v) (some b) :=
  ⟨h.os, h.tape, h.output, by simpa [World.setCell] using h.size, fun k hk hne => by
    rw [← h.block k hk hne]
    have : k ≠ b := fun e => hne (by rw [e])
    simp [World.setCell, Array.getElem?_modify, this.symm]⟩
theorem set_blk1 {w : World} {b : Nat} {u v : Value} {t : TypeId} (h : w.heap[b]? = some (.cells #[u] t (0, 0))) : (w.setCell ⟨b, 0, none⟩ v).heap[b]? = some (.cells #[v] t (0, 0)) := by
  simp [World.setCell, Array.getElem?_modify, h]
theorem grown_alloc {w w1 : World} {row : Option Nat} (h : w.grownBy w1 row) (o : Obj) : w.grownBy (w1.alloc o) row := h.trans (World.grownBy_alloc w1 o row)
theorem grown_blk {w w1 : World} {b : Nat} {row : Option Nat} {o : Obj} (hb : w.heap[b]? = some o) (h : w.grownBy w1 row) (hne : some b ≠ row) : w1.heap[b]? = some o := (h.block b (blk_lt' hb) hne).trans hb
end Go.Proofs.YtmoplcchiadlpaaDoor.Jc
