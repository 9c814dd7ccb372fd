/- Chapter 18 in plain Lean: which instruction bytes begin with. And: two blocks alone are written. -/
import Derived.Test.YtmoplcchiadlpaaDoorJcSigned
set_option linter.unusedVariables false
set_option linter.unusedSimpArgs false
namespace Go.Proofs.YtmoplcchiadlpaaDoor.Jc
open Go Go.RowKit Go.ChangeMaps Go.Proofs.YtmoplcchiadlpaaDoorW.PrintWords

def setReg (m : M) (x : UInt8) (v : Int) : M := if x = 68 then { m with d := v } else if x = 65 then { m with a := v } else if x = 66 then { m with b := v } else { m with c := v }
def byteI (s : List UInt8) (k : Nat) : Int := ((s.getD k 0).toNat : Int)
/-- Registers, two a byte. -/
def getRegs (s : List UInt8) : List UInt8 → M → Nat → Except Int (M × Nat)
  | [], m, p => .ok (m, p)
  | [x], m, p => if p < s.length then .ok (setReg m x (byteI s p / 16), p + 1) else .error 62
  | x :: y :: r, m, p => if p < s.length then getRegs s r (setReg (setReg m x (byteI s p / 16)) y (byteI s p % 16)) (p + 1) else .error 62
def callArgs (n : Nat) : List Int := (List.range n).map fun k : Nat => (k : Int)
def tableArgs (s : List UInt8) (p : Nat) (far : Bool) (n : Nat) : List Int := (List.range n).map fun k : Nat => sgnV 116 far (beNum ((s.drop (p + 1 + 3 * k)).take 3))
/-- The number of an instruction whose registers are read. -/
def getNum (s : List UInt8) (m : M) (p : Nat) (far : Bool) : Except Int (M × Nat) :=
  if numF m.op = 0 then .ok (m, p)
  else if numF m.op = 110 then
    (if s.length < p + 1 then .error 62 else if s.length < p + 1 + 4 then .error 62
     else .ok ({ m with imm := IntKind.i32.wrap (beNum ((s.drop (p + 1)).take 4)), args := callArgs (min (byteI s p).toNat 5) }, p + 1 + 4))
  else if numF m.op = 101 then (if s.length < p + 1 then .error 62 else .ok ({ m with e := byteI s p }, p + 1))
  else if numF m.op = 116 then
    (if s.length < p + 1 then .error 62 else if ¬ (2 ≤ byteI s p ∧ byteI s p ≤ 65) then .error 60
     else if s.length < p + 1 + 3 * (byteI s p).toNat then .error 62
     else .ok ({ m with args := tableArgs s p far (byteI s p).toNat }, p + 1 + 3 * (byteI s p).toNat))
  else if numF m.op = 119 then (if s.length < p + 4 then .error 62 else .ok ({ m with imm := IntKind.i32.wrap (beNum ((s.drop p).take 4)) }, p + 4))
  else if s.length < p + (widthF (numF m.op) far).1 then .error 62
  else .ok ({ m with imm := IntKind.i32.wrap (sgnV (numF m.op) far (beNum ((s.drop p).take (widthF (numF m.op) far).1))) }, p + (widthF (numF m.op) far).1)
def farB (s : List UInt8) : Bool := decide (128 ≤ byteI s 0)
def opB (s : List UInt8) : Int := byteI s 0 % 128
def startM (s : List UInt8) : M := ⟨opB s, 0, if farB s then 1 else 0, 0, 0, 0, 0, []⟩
def fixE (m : M) : M := if m.op = 29 then { m with e := 1 } else m
def getRaw (s : List UInt8) : Except Int (M × Nat) :=
  if s.length = 0 then .error 62
  else if (known (opB s) && (!farB s || decide (numF (opB s) = 98))) = false then .error 60
  else match getRegs s (regsF (opB s)) (startM s) 1 with
    | .ok q => (match getNum s q.1 q.2 (farB s) with
      | .ok r => .ok (fixE r.1, r.2)
      | .error k => .error k)
    | .error k => .error k
/-- P18.2. -/
def getM (s : List UInt8) : Except Int (M × Nat) :=
  match getRaw s with
  | .ok q => (match put q.1 with
    | .ok t => if t = s.take q.2 then .ok q else .error 60
    | .error _ => .error 60)
  | .error k => .error k

theorem byteI_range (s : List UInt8) (k : Nat) : 0 ≤ byteI s k ∧ byteI s k < 256 := by
  unfold byteI
  have := (s.getD k 0).toNat_lt
  omega
theorem beNum_one (s : List UInt8) (p : Nat) (h : p < s.length) : beNum ((s.drop p).take 1) = byteI s p := by
  have e : (s.drop p).take 1 = [s.getD p 0] := by
    rw [List.take_one, List.head?_drop, List.getD_eq_getElem?_getD, List.getElem?_eq_getElem h]
    rfl
  rw [e]
  unfold byteI beNum
  simp [beGo]

structure Kept2 (w w' : World) (b1 b2 : Nat) : Prop where
  os : w'.os = w.os
  tape : w'.tape = w.tape
  output : w'.output = w.output
  size : w.heap.size ≤ w'.heap.size
  block : ∀ k, k < w.heap.size → k ≠ b1 → k ≠ b2 → w'.heap[k]? = w.heap[k]?
theorem Kept2.refl (w : World) (b1 b2 : Nat) : Kept2 w w b1 b2 := ⟨rfl, rfl, rfl, Nat.le_refl _, fun _ _ _ _ => rfl⟩
theorem Kept2.grown {w w1 w2 : World} {b1 b2 b : Nat} (h : Kept2 w w1 b1 b2) (g : w1.grownBy w2 (some b)) (hb : b = b1 ∨ b = b2) : Kept2 w w2 b1 b2 :=
  ⟨g.os.trans h.os, g.tape.trans h.tape, g.output.trans h.output, Nat.le_trans h.size g.size, fun k hk h1 h2 => (g.block k (Nat.lt_of_lt_of_le hk h.size) (by simp; omega)).trans (h.block k hk h1 h2)⟩
theorem Kept2.below {w w1 w2 : World} {b1 b2 : Nat} (h : Kept2 w w1 b1 b2) (g : Below w.heap.size w1 w2) : Kept2 w w2 b1 b2 :=
  ⟨g.os.trans h.os, g.tape.trans h.tape, g.output.trans h.output, Nat.le_trans h.size g.size, fun k hk h1 h2 => (g.block k hk).trans (h.block k hk h1 h2)⟩
theorem Kept2.below1 {w w1 w2 : World} {b1 b2 : Nat} (h : Kept2 w w1 b1 b2) (g : Below w1.heap.size w1 w2) : Kept2 w w2 b1 b2 := h.below (g.mono h.size)
theorem Kept2.set {w w1 : World} {b1 b2 b : Nat} (h : Kept2 w w1 b1 b2) (hb : b = b1 ∨ b = b2) (i : Nat) (v : Value) : Kept2 w (w1.setCell ⟨b, i, none⟩ v) b1 b2 :=
  h.grown (grown_set (World.grownBy.refl w1 (some b)) i v) hb
theorem Kept2.alloc {w w1 : World} {b1 b2 : Nat} (h : Kept2 w w1 b1 b2) (o : Obj) : Kept2 w (w1.alloc o) b1 b2 := h.below1 (below_alloc (Below.refl _ _) o)
theorem Kept2.at {w w1 : World} {b1 b2 b : Nat} {o : Obj} (h : Kept2 w w1 b1 b2) (hb : w.heap[b]? = some o) (h1 : b ≠ b1) (h2 : b ≠ b2) : w1.heap[b]? = some o := (h.block b (blk_lt' hb) h1 h2).trans hb

theorem set_cells {w : World} {b : Nat} {cs : Array Value} {t : TypeId} (h : w.heap[b]? = some (.cells cs t (0, 0))) (i : Nat) (v : Value) : (w.setCell ⟨b, i, none⟩ v).heap[b]? = some (.cells (cs.setIfInBounds i v) t (0, 0)) := by
  simp [World.setCell, Array.getElem?_modify, h]
end Go.Proofs.YtmoplcchiadlpaaDoor.Jc
