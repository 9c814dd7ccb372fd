/- A map of int keys that a call makes, its entries written out: made, stored into at a new key, looked up. -/
import Derived.Maps.Own
import Derived.WalkKit
import Derived.Below
import Derived.Deep.Draws
import Derived.Lib.LaidTab
set_option linter.unusedVariables false
set_option linter.unusedSimpArgs false
namespace Go.Proofs.YtmoplcchiadlpaaDoor.Jc
open Go Go.ChangeMaps

/-- A table of the library's stays what it is. -/
theorem tabIs_below {P : Program} {w w' : World} {n : String} {k : IntKind} {zs : List Int} (h : Lib.TabIs P w n k zs) (hb : RowKit.Below w.heap.size w w') : Lib.TabIs P w' n k zs := by
  unfold Lib.TabIs World.var? at h ⊢
  cases hg : P.globalNamed n with
  | none => rw [hg] at h; cases h
  | some g =>
    rw [hg] at h
    simp only [Option.bind_some] at h ⊢
    have hlt : g < w.heap.size := by
      cases hh : w.heap[g]? with
      | none => rw [hh] at h; cases h
      | some o => exact (Array.getElem?_eq_some_iff.1 hh).1
    rw [hb.block g hlt]
    exact h

theorem tabIs_alloc {P : Program} {w : World} {n : String} {k : IntKind} {zs : List Int} (h : Lib.TabIs P w n k zs) (o : Obj) : Lib.TabIs P (w.alloc o) n k zs := tabIs_below h ((RowKit.Below.refl _ _).alloc (Nat.le_refl _) _)
theorem tabIs_drewN {P : Program} {w : World} {n : String} {k : IntKind} {zs : List Int} (h : Lib.TabIs P w n k zs) (m : Nat) : Lib.TabIs P (w.drewN m) n k zs := h
theorem tabIs_drew {P : Program} {w : World} {n : String} {k : IntKind} {zs : List Int} (h : Lib.TabIs P w n k zs) : Lib.TabIs P w.drew n k zs := h

/-- The entries of a map that was filled in the order of a list, each key once. -/
def ents (l : List (Int × Value)) (n : Nat) : List MapEntry :=
  match l with
  | [] => []
  | p :: r => { key := .int .i64 p.1, val := p.2, born := n } :: ents r (n + 1)

theorem ents_snoc (l : List (Int × Value)) (p : Int × Value) : ∀ n, ents (l ++ [p]) n = ents l n ++ [{ key := .int .i64 p.1, val := p.2, born := n + l.length }] := by
  induction l with
  | nil => intro n; rfl
  | cons q r ih => intro n; simp [ents, ih]; omega

def look (k : Int) : List (Int × Value) → Option Value
  | [] => none
  | p :: r => if k = p.1 then some p.2 else look k r

theorem find_look (k : Int) : ∀ (l : List (Int × Value)) (n i : Nat), ∃ j, Instr.findNow (.int .i64) (.int .i64 k) (ents l n) i = some ((look k l).map fun v => (j, v))
  | [], n, i => ⟨0, rfl⟩
  | p :: r, n, i => by
    obtain ⟨j, hj⟩ := find_look k r (n + 1) (i + 1)
    by_cases h : k = p.1
    · exact ⟨i, by simp [ents, Instr.findNow, Instr.sameNow, look, h]⟩
    · refine ⟨j, ?_⟩
      have h' : (k == p.1) = false := by simpa using h
      simp [ents, Instr.findNow, Instr.sameNow, look, h, h', hj]

/-- Block B of w is the map that was filled in the order of l. -/
def IsMap (w : World) (B : Nat) (l : List (Int × Value)) : Prop := w.heap[B]? = some (.map (ents l 0).toArray l.length)

theorem IsMap.lt {w : World} {B : Nat} {l : List (Int × Value)} (h : IsMap w B l) : B < w.heap.size := (Array.getElem?_eq_some_iff.1 h).1

theorem IsMap.new (w : World) : IsMap (w.alloc (.map #[] 0)) w.heap.size [] := (MapKept.heap_alloc w _).1

theorem IsMap.kept {w w' : World} {B : Nat} {l : List (Int × Value)} {row : Option Nat} (h : IsMap w B l) (hg : w.grownBy w' row) (hne : some B ≠ row) : IsMap w' B l :=
  (hg.block B h.lt hne).trans h

theorem IsMap.below {w w' : World} {B : Nat} {l : List (Int × Value)} (h : IsMap w B l) (hg : RowKit.Below w.heap.size w w') : IsMap w' B l :=
  (hg.block B h.lt).trans h

theorem IsMap.alloc {w : World} {B : Nat} {l : List (Int × Value)} (h : IsMap w B l) (o : Obj) : IsMap (w.alloc o) B l := h.kept (World.grownBy_alloc w o none) (by simp)

section
variable {P : Program} {t K E : TypeId} (ht : P.underlying t = some (.map K E)) (hK : P.underlying K = some (.int .i64))
include ht hK

omit ht in
theorem run_checkKey_int (e : Bool) (k : Int) (w : World) : (Instr.checkKey e 10000 K (.int .i64 k)).run P w = .ok () w := by
  show (Instr.checkKey e (9999 + 1) K (.int .i64 k)).run P w = .ok () w
  rw [Instr.checkKey]
  simp [run_underlying hK]

theorem IsMap.run_update {w : World} {B : Nat} {l : List (Int × Value)} (h : IsMap w B l) (k : Int) (v : Value) (hk : look k l = none) :
    (Instr.mapUpdate t (.map (some B)) (.int .i64 k) v).run P w = .ok () (setBlock w B (.map (ents (l ++ [(k, v)]) 0).toArray (l.length + 1))) ∧
      IsMap (setBlock w B (.map (ents (l ++ [(k, v)]) 0).toArray (l.length + 1))) B (l ++ [(k, v)]) ∧ w.grownBy (setBlock w B (.map (ents (l ++ [(k, v)]) 0).toArray (l.length + 1))) (some B) := by
  obtain ⟨j, hj⟩ := find_look k l 0 0
  rw [hk] at hj
  have hb : w.heap[B]? = some (.map (ents l 0).toArray l.length) := h
  refine ⟨?_, ?_, ?_⟩
  · simp [Instr.mapUpdate, run_underlying ht, getObj, Sem.run, hb, run_checkKey_int hK, run_underlying hK, Instr.findKey, hj, setObj, setBlock, ents_snoc]
  · simp [IsMap, setBlock, heap_setBlock_same hb]
    have := h.lt
    simp [Array.getElem?_setIfInBounds, this]
  · refine ⟨rfl, rfl, rfl, by simp [setBlock], fun i hi hne => ?_⟩
    exact heap_setBlock_other hb _ (fun e => hne (by rw [e]))

theorem IsMap.run_lookup_ok {w : World} {B : Nat} {l : List (Int × Value)} (h : IsMap w B l) (k : Int) (z : Value) (hz : (zeroValue E).run P w = .ok z w) :
    (Instr.lookup t (.map (some B)) (.int .i64 k) true).run P w = .ok (.tuple #[(look k l).getD z, .bool (look k l).isSome]) w := by
  obtain ⟨j, hj⟩ := find_look k l 0 0
  have hb : w.heap[B]? = some (.map (ents l 0).toArray l.length) := h
  cases hl : look k l with
  | none =>
    rw [hl] at hj
    simp [Instr.lookup, run_underlying ht, getObj, Sem.run, hb, run_checkKey_int hK, run_underlying hK, Instr.findKey, hj, hz]
  | some v =>
    rw [hl] at hj
    simp [Instr.lookup, run_underlying ht, getObj, Sem.run, hb, run_checkKey_int hK, run_underlying hK, Instr.findKey, hj]

theorem IsMap.run_lookup {w : World} {B : Nat} {l : List (Int × Value)} (h : IsMap w B l) (k : Int) (z : Value) (hz : (zeroValue E).run P w = .ok z w) :
    (Instr.lookup t (.map (some B)) (.int .i64 k) false).run P w = .ok ((look k l).getD z) w := by
  obtain ⟨j, hj⟩ := find_look k l 0 0
  have hb : w.heap[B]? = some (.map (ents l 0).toArray l.length) := h
  cases hl : look k l with
  | none =>
    rw [hl] at hj
    simp [Instr.lookup, run_underlying ht, getObj, Sem.run, hb, run_checkKey_int hK, run_underlying hK, Instr.findKey, hj, hz]
  | some v =>
    rw [hl] at hj
    simp [Instr.lookup, run_underlying ht, getObj, Sem.run, hb, run_checkKey_int hK, run_underlying hK, Instr.findKey, hj]

/-- 'm[k] = v' at the operation, k a new key. -/
theorem wpList_update_new {ops : Array Oper} {rest : List Oper} {o : Oper} {a : Act} {Q : Exit → Act → World → Prop} (w : World)
    (hg : o.guard = none) (m x v : Operand) (hop : o.op = Op.mapUpdate t m x v) (B : Nat) (l : List (Int × Value)) (hm : a.eval m = .map (some B)) (h : IsMap w B l) (k : Int) (val : Value)
    (hx : a.eval x = .int .i64 k) (hv : a.eval v = val) (hk : look k l = none)
    (hK' : ∀ w', IsMap w' B (l ++ [(k, val)]) → w.grownBy w' (some B) → wpList P ops Q rest (a.put o.dst undef) w') :
    wpList P ops Q (o :: rest) a w := by
  refine wpList_plain hg fun K'' hK'' => ?_
  obtain ⟨hrun, r1, r2⟩ := h.run_update ht hK k val hk
  unfold Oper.wp
  simp [execOp, hop, hm, hx, hv, hrun, Result.andThen]
  exact hK'' _ _ (hK' _ r1 r2)
end
end Go.Proofs.YtmoplcchiadlpaaDoor.Jc
