/- The contracts of the smallest functions of package code: must, register. A map of int keys that a call makes, its entries written out: made, stored into at a new key, looked up. What a row's condition on the library's tables gives: the two tables that package code reads. The table of package code's instructions: its rows as the program's text has them, and, number by number, what comes of them. Plain Lean. Chapter 18, said in plain Lean: what an instruction's bytes are, how many, its text; what bytes tell. No program in sight. How an instruction is handed to a Go function: its value, and its Args in memory. Blocks that are made, and what stays as it was. append, of the first few cells of a literal. Strings in rows. code.number, code.width, code.fits: a number in bytes. Chapter 18 in plain Lean: the registers of an instruction, two a byte. Chapter 18 in plain Lean: an instruction's number in bytes; the contracts of fits by it. Arguments of a statement, opened: an instruction, a short array of numbers. code.Get's take: the number of the next bytes. code.Get's signed: a number with a sign, if it may be one. Chapter 18 in plain Lean: which instruction bytes begin with. And: two blocks alone are written. Chapter 18 in plain Lean: registers that are read. A row of whole numbers that a call makes and keeps in a field of a block: what it reads as. DERIVED: THE SHELF's CONTRACTS AT THIS DUMP, IN PLAIN WORDS (tools/lay-plain.mjs out of 'TrydShelf.lean', which tools/lay-shelf.mjs wrote): THE SAME DECLARATIONS UNDER THE SAME NAMES: 'import', 'namespace', 'open', 'def', 'theorem' AND NOTHING ELSE: no command of the shelf's: FOR A HAND-IN. Each laying: the table of numbers ('.._ren') and one theorem, a field a fact of the dump's own or the kernel's comparison; each contract: ONE APPLICATION. -/
import Derived.Test.YtmoplcchiadlpaaDoorProg
import Derived.Test.YtmoplcchiadlpaaDoorKWWords
import Derived.WalkKit
import Derived.WalkLawsBesides
import Derived.WalkSpells
import Derived.KernelRfl
import Derived.Defers
import Derived.Recover
import Derived.Lib.Hide
import Derived.Maps.Own
import Derived.Below
import Derived.Deep.Draws
import Derived.Lib.LaidTab
import Derived.Test.YtmoplcchiadlpaaDoorRows
import Derived.LaidMore
import Derived.OpenShut
import Derived.Stop.Joined
import Derived.MakeChecks
import Derived.Lib.Fields
import Derived.Lib.Itoa
import Derived.LaidLaws
import Derived.ProofKit
import Derived.Lib.ItoaMem
import Derived.Lib.Join
import Derived.Lib.ItoaLen
import Derived.WideShapes
import Derived.Laws.BitsAllLaws
import Derived.Laws.Bits128
import Derived.Shelf.Strings.Builder1
import Derived.Shelf.Strings.Builder2
import Derived.Shelf.Strings.OnBuilder
import Derived.Shelf.Small.Strs
import Derived.Shelf.Strconv.Itoa0
import Derived.Shelf.Strconv.Itoa1
import Derived.Shelf.LaysM
import Derived.Shelf.Strconv.Itoa2
import Derived.Shelf.Strconv.Itoa3
import Derived.Shelf.Strings.Search1
import Derived.Shelf.Strings.Search2
import Derived.Shelf.Strings.Search3
import Derived.Shelf.Strings.Shaped
import Derived.Shelf.Strings.Fields
import Derived.Shelf.Strings.SplitShaped
import Derived.Shelf.Unicode.Latin
import Derived.Shelf.Unicode.Is16White
import Derived.Shelf.Unicode.IsSpaceAny
import Derived.Shelf.Unicode.Is16Any
import Derived.Shelf.Unicode.Is32Any
import Derived.Shelf.Unicode.ExclAny
import Derived.Ground.Names2Prog
import Derived.Shelf.Slices.Clone
section
set_option linter.unusedVariables false
set_option linter.unusedSimpArgs false
namespace Go.Proofs.YtmoplcchiadlpaaDoor.Jc
open Go.RowKit Go.Proofs.YtmoplcchiadlpaaDoorW.PrintWords

/-- The panic of package code. -/
def trouble (e : Int) : Value := .iface 86 (.agg #[.int .i64 e])

theorem must_ok (e : Int) (w : World) : Calls Tryd.prog 33 #[.bool true, .int .i64 e] w fun e' w' => e' = .returned (.tuple #[]) ∧ w = w' := by
  go_enter Tryd.func33, Tryd.ntmps33
  go_wp2
  go_end0
  exact ⟨rfl, rfl⟩

theorem must_no (e : Int) (w : World) : Calls Tryd.prog 33 #[.bool false, .int .i64 e] w fun e' w' => e' = .panicked [{ v := trouble e, recovered := false }] ∧ w = w' := by
  go_enter Tryd.func33, Tryd.ntmps33
  go_wp2
  exact ⟨rfl, rfl, rfl⟩

theorem register_at (b : Nat) (c off : Int) (h : (c = 68 ∧ off = 1) ∨ (c = 65 ∧ off = 3) ∨ (c = 66 ∧ off = 4) ∨ (c = 67 ∧ off = 5)) (w : World) :
    Calls Tryd.prog 36 #[.pointer (some ⟨b, 0, none⟩), .int .u8 c] w fun e' w' => e' = .returned (.pointer (some ⟨b, off.toNat, none⟩)) ∧ w = w' := by
  rcases h with ⟨rfl, rfl⟩ | ⟨rfl, rfl⟩ | ⟨rfl, rfl⟩ | ⟨rfl, rfl⟩
  all_goals
    go_enter Tryd.func36, Tryd.ntmps36
    go_wp2
    go_ret
    exact ⟨rfl, rfl⟩

/-! caught: the deferred closure, entered by a frame that panics with our own panic; by one that returns. -/
theorem catch_panicking (b : Nat) (k x : Int) (older : List PanicEntry) (w : World) (hc : w.cell? ⟨b, 0, none⟩ = some (.int .i64 x)) (hz : w.frozen? ⟨b, 0, none⟩ = false) :
    CallsD Tryd.prog 63 #[.pointer (some ⟨b, 0, none⟩)] (.panicking ({ v := trouble k, recovered := false } :: older)) w fun e u' w' =>
      e = .returned (.tuple #[]) ∧ u' = .panicking ({ v := trouble k, recovered := true } :: older) ∧ w' = (w.setCell ⟨b, 0, none⟩ (.int .i64 k)).alloc (.cells #[.int .i64 k] 86) := by
  refine callsD_of_wpS Tryd.func63 rfl fun c₀ cs hu => ?_
  have hb : b < w.heap.size := World.block_lt_of_cell? w ⟨b, 0, none⟩ hc
  have hta : ∀ (v : Value) (W : World), (Instr.typeAssert (.iface 86 v) 20 86 true).run Tryd.prog W = .ok (.tuple #[v, .bool true]) W := fun v W => by simp [Instr.typeAssert, run_underlying Tryd.underlying86]
  simp only [Tryd.ntmps63, List.size_toArray, List.length_cons, List.length_nil, Nat.reduceAdd, Nat.reduceSub, Array.replicate_succ, Array.replicate_zero, List.push_toArray, List.append_toArray, List.nil_append, List.cons_append]
  apply wpS_seq
  apply wpS_region
  simp [wpOpsS, go_sem, recoverD, hu, Exit.thenS, trouble]
  refine wpS_of_wp ?_
  go_wp2
  simp [bodyPostS, results, Tryd.results63]

theorem catch_idle (p : Addr) (w : World) :
    CallsD Tryd.prog 63 #[.pointer (some p)] .returning w fun e u' w' => e = .returned (.tuple #[]) ∧ u' = .returning ∧ w' = w := by
  refine callsD_of_wpS Tryd.func63 rfl fun c₀ cs hu => ?_
  simp only [Tryd.ntmps63, List.size_toArray, List.length_cons, List.length_nil, Nat.reduceAdd, Nat.reduceSub, Array.replicate_succ, Array.replicate_zero, List.push_toArray, List.append_toArray, List.nil_append, List.cons_append]
  apply wpS_seq
  apply wpS_region
  simp [wpOpsS, go_sem, recoverD, hu, Exit.thenS]
  refine wpS_of_wp ?_
  go_wp2
  cases c₀
  simp_all [bodyPostS, results, Tryd.results63]

set_option maxRecDepth 100000 in
/-- caught: what the function value that it is given does, told: no panic, or ours. -/
theorem caught_any (f : Nat) (cap : Array Value) (w : World) (Q : Ending → World → Prop) (hcf : ∀ w, (callFunc f cap).run Tryd.prog w = .ok (.enter f cap) w)
    (hrun : Calls Tryd.prog f cap (w.alloc (.cells #[.int .i64 0] 27)) fun e w' => w'.cell? ⟨w.heap.size, 0, none⟩ = some (.int .i64 0) ∧ w'.frozen? ⟨w.heap.size, 0, none⟩ = false ∧
      ((e = .returned (.tuple #[]) ∧ Q (.returned (.int .i64 0)) (w'.setCell ⟨w.heap.size, 0, none⟩ (.int .i64 0))) ∨
       ∃ k, e = .panicked [{ v := trouble k, recovered := false }] ∧ Q (.returned (.int .i64 k)) ((w'.setCell ⟨w.heap.size, 0, none⟩ (.int .i64 k)).alloc (.cells #[.int .i64 k] 86)))) :
    Calls Tryd.prog 30 #[.func (.func f) #[] cap] w Q := by
  have HR := Lib.hid hrun
  clear hrun
  go_enter_defers Tryd.func30, Tryd.ntmps30
  go_wp2_with fail
  refine HR.out.mono ?_
  rintro e w' ⟨hc, hz, ⟨rfl, hq⟩ | ⟨k, rfl, hq⟩⟩
  · have HQ := Lib.hid hq
    clear hq
    go_wp2_with fail
    refine leaves_cons (f := 63) (args := #[.pointer (some ⟨w.heap.size, 0, none⟩)]) (by simp) (by simp [go_sem]) ?_
    refine (catch_idle _ _).mono ?_
    rintro e u' w'' ⟨rfl, rfl, rfl⟩
    simp [Leaves, settle, results, Tryd.results30, go_sem, hc]
    exact HQ.out
  · have HQ := Lib.hid hq
    clear hq
    refine leaves_cons (f := 63) (args := #[.pointer (some ⟨w.heap.size, 0, none⟩)]) (by simp) (by simp [go_sem]) ?_
    refine (catch_panicking w.heap.size k 0 [] _ hc hz).mono ?_
    rintro e u' w'' ⟨rfl, rfl, rfl⟩
    have hlt : w.heap.size < w'.heap.size := World.block_lt_of_cell? w' ⟨w.heap.size, 0, none⟩ hc
    have hc1 : ((w'.setCell ⟨w.heap.size, 0, none⟩ (.int .i64 k)).alloc (.cells #[.int .i64 k] 86)).cell? ⟨w.heap.size, 0, none⟩ = some (.int .i64 k) := by
      rw [World.cell?_alloc_past _ _ _ (by simpa using hlt)]
      simp [go_sem, hc]
    simp [Leaves, settle, results, Tryd.results30, go_sem, hc1, trouble]
    exact HQ.out
end Go.Proofs.YtmoplcchiadlpaaDoor.Jc
end
section
set_option linter.unusedVariables false
set_option linter.unusedSimpArgs false
namespace Go.Proofs.YtmoplcchiadlpaaDoor.Jc
open Go Go.ChangeMaps

/-- A table of the library's stays what it is. -/
theorem tabIs_below {P : Program} {w w' : World} {n : String} {k : IntKind} {zs : List Int} (h : Lib.TabIs P w n k zs) (hb : RowKit.Below w.heap.size w w') : Lib.TabIs P w' n k zs := by
  unfold Lib.TabIs World.var? at h ⊢
  cases hg : P.globalNamed n with
  | none => rw [hg] at h; cases h
  | some g =>
    rw [hg] at h
    simp only [Option.bind_some] at h ⊢
    have hlt : g < w.heap.size := by
      cases hh : w.heap[g]? with
      | none => rw [hh] at h; cases h
      | some o => exact (Array.getElem?_eq_some_iff.1 hh).1
    rw [hb.block g hlt]
    exact h

theorem tabIs_alloc {P : Program} {w : World} {n : String} {k : IntKind} {zs : List Int} (h : Lib.TabIs P w n k zs) (o : Obj) : Lib.TabIs P (w.alloc o) n k zs := tabIs_below h ((RowKit.Below.refl _ _).alloc (Nat.le_refl _) _)
theorem tabIs_drewN {P : Program} {w : World} {n : String} {k : IntKind} {zs : List Int} (h : Lib.TabIs P w n k zs) (m : Nat) : Lib.TabIs P (w.drewN m) n k zs := h
theorem tabIs_drew {P : Program} {w : World} {n : String} {k : IntKind} {zs : List Int} (h : Lib.TabIs P w n k zs) : Lib.TabIs P w.drew n k zs := h

/-- The entries of a map that was filled in the order of a list, each key once. -/
def ents (l : List (Int × Value)) (n : Nat) : List MapEntry :=
  match l with
  | [] => []
  | p :: r => { key := .int .i64 p.1, val := p.2, born := n } :: ents r (n + 1)

theorem ents_snoc (l : List (Int × Value)) (p : Int × Value) : ∀ n, ents (l ++ [p]) n = ents l n ++ [{ key := .int .i64 p.1, val := p.2, born := n + l.length }] := by
  induction l with
  | nil => intro n; rfl
  | cons q r ih => intro n; simp [ents, ih]; omega

def look (k : Int) : List (Int × Value) → Option Value
  | [] => none
  | p :: r => if k = p.1 then some p.2 else look k r

theorem find_look (k : Int) : ∀ (l : List (Int × Value)) (n i : Nat), ∃ j, Instr.findNow (.int .i64) (.int .i64 k) (ents l n) i = some ((look k l).map fun v => (j, v))
  | [], n, i => ⟨0, rfl⟩
  | p :: r, n, i => by
    obtain ⟨j, hj⟩ := find_look k r (n + 1) (i + 1)
    by_cases h : k = p.1
    · exact ⟨i, by simp [ents, Instr.findNow, Instr.sameNow, look, h]⟩
    · refine ⟨j, ?_⟩
      have h' : (k == p.1) = false := by simpa using h
      simp [ents, Instr.findNow, Instr.sameNow, look, h, h', hj]

/-- Block B of w is the map that was filled in the order of l. -/
def IsMap (w : World) (B : Nat) (l : List (Int × Value)) : Prop := w.heap[B]? = some (.map (ents l 0).toArray l.length)

theorem IsMap.lt {w : World} {B : Nat} {l : List (Int × Value)} (h : IsMap w B l) : B < w.heap.size := (Array.getElem?_eq_some_iff.1 h).1

theorem IsMap.new (w : World) : IsMap (w.alloc (.map #[] 0)) w.heap.size [] := (MapKept.heap_alloc w _).1

theorem IsMap.kept {w w' : World} {B : Nat} {l : List (Int × Value)} {row : Option Nat} (h : IsMap w B l) (hg : w.grownBy w' row) (hne : some B ≠ row) : IsMap w' B l :=
  (hg.block B h.lt hne).trans h

theorem IsMap.below {w w' : World} {B : Nat} {l : List (Int × Value)} (h : IsMap w B l) (hg : RowKit.Below w.heap.size w w') : IsMap w' B l :=
  (hg.block B h.lt).trans h

theorem IsMap.alloc {w : World} {B : Nat} {l : List (Int × Value)} (h : IsMap w B l) (o : Obj) : IsMap (w.alloc o) B l := h.kept (World.grownBy_alloc w o none) (by simp)

section
variable {P : Program} {t K E : TypeId} (ht : P.underlying t = some (.map K E)) (hK : P.underlying K = some (.int .i64))
include ht hK

omit ht in
theorem run_checkKey_int (e : Bool) (k : Int) (w : World) : (Instr.checkKey e 10000 K (.int .i64 k)).run P w = .ok () w := by
  show (Instr.checkKey e (9999 + 1) K (.int .i64 k)).run P w = .ok () w
  rw [Instr.checkKey]
  simp [run_underlying hK]

theorem IsMap.run_update {w : World} {B : Nat} {l : List (Int × Value)} (h : IsMap w B l) (k : Int) (v : Value) (hk : look k l = none) :
    (Instr.mapUpdate t (.map (some B)) (.int .i64 k) v).run P w = .ok () (setBlock w B (.map (ents (l ++ [(k, v)]) 0).toArray (l.length + 1))) ∧
      IsMap (setBlock w B (.map (ents (l ++ [(k, v)]) 0).toArray (l.length + 1))) B (l ++ [(k, v)]) ∧ w.grownBy (setBlock w B (.map (ents (l ++ [(k, v)]) 0).toArray (l.length + 1))) (some B) := by
  obtain ⟨j, hj⟩ := find_look k l 0 0
  rw [hk] at hj
  have hb : w.heap[B]? = some (.map (ents l 0).toArray l.length) := h
  refine ⟨?_, ?_, ?_⟩
  · simp [Instr.mapUpdate, run_underlying ht, getObj, Sem.run, hb, run_checkKey_int hK, run_underlying hK, Instr.findKey, hj, setObj, setBlock, ents_snoc]
  · simp [IsMap, setBlock, heap_setBlock_same hb]
    have := h.lt
    simp [Array.getElem?_setIfInBounds, this]
  · refine ⟨rfl, rfl, rfl, by simp [setBlock], fun i hi hne => ?_⟩
    exact heap_setBlock_other hb _ (fun e => hne (by rw [e]))

theorem IsMap.run_lookup_ok {w : World} {B : Nat} {l : List (Int × Value)} (h : IsMap w B l) (k : Int) (z : Value) (hz : (zeroValue E).run P w = .ok z w) :
    (Instr.lookup t (.map (some B)) (.int .i64 k) true).run P w = .ok (.tuple #[(look k l).getD z, .bool (look k l).isSome]) w := by
  obtain ⟨j, hj⟩ := find_look k l 0 0
  have hb : w.heap[B]? = some (.map (ents l 0).toArray l.length) := h
  cases hl : look k l with
  | none =>
    rw [hl] at hj
    simp [Instr.lookup, run_underlying ht, getObj, Sem.run, hb, run_checkKey_int hK, run_underlying hK, Instr.findKey, hj, hz]
  | some v =>
    rw [hl] at hj
    simp [Instr.lookup, run_underlying ht, getObj, Sem.run, hb, run_checkKey_int hK, run_underlying hK, Instr.findKey, hj]

theorem IsMap.run_lookup {w : World} {B : Nat} {l : List (Int × Value)} (h : IsMap w B l) (k : Int) (z : Value) (hz : (zeroValue E).run P w = .ok z w) :
    (Instr.lookup t (.map (some B)) (.int .i64 k) false).run P w = .ok ((look k l).getD z) w := by
  obtain ⟨j, hj⟩ := find_look k l 0 0
  have hb : w.heap[B]? = some (.map (ents l 0).toArray l.length) := h
  cases hl : look k l with
  | none =>
    rw [hl] at hj
    simp [Instr.lookup, run_underlying ht, getObj, Sem.run, hb, run_checkKey_int hK, run_underlying hK, Instr.findKey, hj, hz]
  | some v =>
    rw [hl] at hj
    simp [Instr.lookup, run_underlying ht, getObj, Sem.run, hb, run_checkKey_int hK, run_underlying hK, Instr.findKey, hj]

/-- 'm[k] = v' at the operation, k a new key. -/
theorem wpList_update_new {ops : Array Oper} {rest : List Oper} {o : Oper} {a : Act} {Q : Exit → Act → World → Prop} (w : World)
    (hg : o.guard = none) (m x v : Operand) (hop : o.op = Op.mapUpdate t m x v) (B : Nat) (l : List (Int × Value)) (hm : a.eval m = .map (some B)) (h : IsMap w B l) (k : Int) (val : Value)
    (hx : a.eval x = .int .i64 k) (hv : a.eval v = val) (hk : look k l = none)
    (hK' : ∀ w', IsMap w' B (l ++ [(k, val)]) → w.grownBy w' (some B) → wpList P ops Q rest (a.put o.dst undef) w') :
    wpList P ops Q (o :: rest) a w := by
  refine wpList_plain hg fun K'' hK'' => ?_
  obtain ⟨hrun, r1, r2⟩ := h.run_update ht hK k val hk
  unfold Oper.wp
  simp [execOp, hop, hm, hx, hv, hrun, Result.andThen]
  exact hK'' _ _ (hK' _ r1 r2)
end
end Go.Proofs.YtmoplcchiadlpaaDoor.Jc
end
section
set_option linter.unusedVariables false
set_option linter.unusedSimpArgs false
namespace Go.Proofs.YtmoplcchiadlpaaDoor.Jc
open Go Go.RowKit Go.ChangeAt

def laids {H : Type} : List (String × DataW H) := [("math/bits.deBruijn32tab", Rows.laid_math_bits_deBruijn32tab), ("math/bits.deBruijn64tab", Rows.laid_math_bits_deBruijn64tab), ("internal/strconv.uint64pow10", Rows.laid_internal_strconv_uint64pow10), ("unicode.White_Space", Rows.laid_unicode_White_Space), ("strings.asciiSpace", Rows.laid_strings_asciiSpace)]
def laidU : List (String × DataW Unit) := laids

theorem gPow : Tryd.prog.globalNamed "internal/strconv.uint64pow10" = some 3 := by kernel_rfl
theorem gSpace : Tryd.prog.globalNamed "strings.asciiSpace" = some 0 := by kernel_rfl
theorem dPow {H : Type} : (Rows.laid_internal_strconv_uint64pow10 : DataW H) = Lib.tabData .u64 Lib.pow10Tab := by kernel_rfl
theorem dSpace {H : Type} : (Rows.laid_strings_asciiSpace : DataW H) = Lib.tabData .u8 Lib.asciiSpaceTab := by kernel_rfl

/-- The door's own heap meets the condition. -/
theorem door_met (os : Os) (args : Array Value) : laidMetH Tryd.prog laidU ((World.doorLaid Tryd.prog 400 os).forCall (fun _ _ => 0) ⟨#[], args, []⟩).memory :=
  laidMetH_of_parts3 (fuel := 8) (laidMet_of_run' 8 (by kernel_rfl) (by kernel_rfl)) (by kernel_rfl) (by kernel_rfl)

theorem tabs_of_laid {W : World} (h : laidMetH Tryd.prog laidU W) : Lib.TabIs Tryd.prog W "strings.asciiSpace" .u8 Lib.asciiSpaceTab ∧ Lib.TabIs Tryd.prog W "internal/strconv.uint64pow10" .u64 Lib.pow10Tab := by
  rw [MakeChecks.laidMetH_plain _ _ _ (by kernel_rfl)] at h
  obtain ⟨ps, ⟨g0, t0, cs0, f0, p0, q0, hg0, ht0, hv0, hd0, ⟨g1, t1, cs1, f1, p1, q1, hg1, ht1, hv1, hd1, ⟨g2, t2, cs2, f2, p2, q2, hg2, ht2, hv2, hd2, ⟨g3, t3, cs3, f3, p3, q3, hg3, ht3, hv3, hd3, ⟨g4, t4, cs4, f4, p4, q4, hg4, ht4, hv4, hd4, _, _⟩, _⟩, _⟩, _⟩, _⟩, _, _⟩ := h
  obtain rfl := Option.some.inj (gPow.symm.trans hg2)
  obtain rfl := Option.some.inj (gSpace.symm.trans hg4)
  have e2 := Option.some.inj ((show (Tryd.prog.globals[3]?).map (·.type) = some 143 by kernel_rfl).symm.trans ht2)
  have e4 := Option.some.inj ((show (Tryd.prog.globals[0]?).map (·.type) = some 112 by kernel_rfl).symm.trans ht4)
  subst e2
  subst e4
  constructor
  · unfold Lib.TabIs
    rw [hv4, ← Lib.cells_of_tab (t := 112) (e := 5) (n := 256) (k := .u8) (by kernel_rfl) (by kernel_rfl) (by kernel_rfl) (by kernel_rfl) (by rw [← dSpace]; exact hd4)]
  · unfold Lib.TabIs
    rw [hv2, ← Lib.cells_of_tab (t := 143) (e := 123) (n := 20) (k := .u64) (by kernel_rfl) (by kernel_rfl) (by kernel_rfl) (by kernel_rfl) (by rw [← dPow]; exact hd2)]
end Go.Proofs.YtmoplcchiadlpaaDoor.Jc
end
section
set_option linter.unusedVariables false
set_option linter.unusedSimpArgs false
namespace Go.Proofs.YtmoplcchiadlpaaDoor.Jc
open Go

/-- A row: the first number, the names with blanks between, the fields. -/
def rows : List (Int × List UInt8 × List UInt8) := [(1, [109, 111, 118], [68, 65]),
  (2, [115, 119, 97, 112], [65, 66]),
  (3, [108, 105], [68, 104]),
  (4, [108, 105, 119], [68, 119]),
  (5, [97, 100, 100, 32, 115, 117, 98, 32, 109, 117, 108, 32, 97, 110, 100, 32, 111, 114, 32, 120, 111, 114, 32, 115, 104, 108, 32, 115, 104, 114, 32, 115, 97, 114, 32, 101, 113, 32, 108, 116, 32, 108, 116, 117, 32, 100, 105, 118], [68, 65, 66]),
  (18, [97, 100, 100, 105, 32, 97, 110, 100, 105], [68, 65, 105]),
  (20, [115, 104, 108, 105, 32, 115, 104, 114, 105, 32, 115, 97, 114, 105], [68, 65, 115]),
  (23, [109, 97, 100, 100], [68, 65, 66, 67]),
  (24, [108, 100], [68, 65, 117]),
  (25, [108, 100, 120], [68, 65, 66]),
  (26, [115, 116], [65, 66, 117]),
  (27, [115, 116, 120], [65, 66, 67]),
  (28, [99, 97, 108, 108], [110, 119]),
  (29, [109, 117, 108, 119], [65, 66]),
  (30, [115, 108, 100], [68, 112]),
  (31, [115, 115, 116], [65, 112]),
  (40, [106], [98]),
  (41, [98, 110, 122, 32, 98, 122], [65, 98]),
  (43, [98, 101, 113, 32, 98, 110, 101, 32, 98, 108, 116, 32, 98, 103, 101, 32, 98, 108, 116, 117, 32, 98, 103, 101, 117], [65, 66, 98]),
  (49, [106, 116], [65, 116]),
  (50, [114, 101, 116], [101]),
  (51, [116, 114, 97, 112], [119])]

/-- All instructions: number, name, fields. -/
def tab : List (Int × List UInt8 × List UInt8) := [(1, [109, 111, 118], [68, 65]),
  (2, [115, 119, 97, 112], [65, 66]),
  (3, [108, 105], [68, 104]),
  (4, [108, 105, 119], [68, 119]),
  (5, [97, 100, 100], [68, 65, 66]),
  (6, [115, 117, 98], [68, 65, 66]),
  (7, [109, 117, 108], [68, 65, 66]),
  (8, [97, 110, 100], [68, 65, 66]),
  (9, [111, 114], [68, 65, 66]),
  (10, [120, 111, 114], [68, 65, 66]),
  (11, [115, 104, 108], [68, 65, 66]),
  (12, [115, 104, 114], [68, 65, 66]),
  (13, [115, 97, 114], [68, 65, 66]),
  (14, [101, 113], [68, 65, 66]),
  (15, [108, 116], [68, 65, 66]),
  (16, [108, 116, 117], [68, 65, 66]),
  (17, [100, 105, 118], [68, 65, 66]),
  (18, [97, 100, 100, 105], [68, 65, 105]),
  (19, [97, 110, 100, 105], [68, 65, 105]),
  (20, [115, 104, 108, 105], [68, 65, 115]),
  (21, [115, 104, 114, 105], [68, 65, 115]),
  (22, [115, 97, 114, 105], [68, 65, 115]),
  (23, [109, 97, 100, 100], [68, 65, 66, 67]),
  (24, [108, 100], [68, 65, 117]),
  (25, [108, 100, 120], [68, 65, 66]),
  (26, [115, 116], [65, 66, 117]),
  (27, [115, 116, 120], [65, 66, 67]),
  (28, [99, 97, 108, 108], [110, 119]),
  (29, [109, 117, 108, 119], [65, 66]),
  (30, [115, 108, 100], [68, 112]),
  (31, [115, 115, 116], [65, 112]),
  (40, [106], [98]),
  (41, [98, 110, 122], [65, 98]),
  (42, [98, 122], [65, 98]),
  (43, [98, 101, 113], [65, 66, 98]),
  (44, [98, 110, 101], [65, 66, 98]),
  (45, [98, 108, 116], [65, 66, 98]),
  (46, [98, 103, 101], [65, 66, 98]),
  (47, [98, 108, 116, 117], [65, 66, 98]),
  (48, [98, 103, 101, 117], [65, 66, 98]),
  (49, [106, 116], [65, 116]),
  (50, [114, 101, 116], [101]),
  (51, [116, 114, 97, 112], [119])]

/-- What a row adds, when so many of its names are gone over. -/
def rowPart (r : Int × List UInt8 × List UInt8) (j : Nat) : List (Int × List UInt8 × List UInt8) := ((Lib.fields r.2.1).zipIdx.take j).map fun x => (r.1 + x.2, x.1, r.2.2)
def tabTo (k : Nat) : List (Int × List UInt8 × List UInt8) := (rows.take k).flatMap fun r => rowPart r (Lib.fields r.2.1).length

theorem rows_length : rows.length = 22 := rfl
theorem tabTo_all : tabTo 22 = tab := by decide +kernel
theorem tabTo_succ (k : Nat) (h : k < 22) : tabTo (k + 1) = tabTo k ++ rowPart (rows.getD k (0, [], [])) (Lib.fields (rows.getD k (0, [], [])).2.1).length := by
  have hk : k < rows.length := by rw [rows_length]; exact h
  unfold tabTo
  rw [List.take_succ_eq_append_getElem hk, List.flatMap_append]
  simp [List.getD_eq_getElem?_getD, List.getElem?_eq_getElem hk]
theorem rowPart_succ (r : Int × List UInt8 × List UInt8) (j : Nat) (h : j < (Lib.fields r.2.1).length) : rowPart r (j + 1) = rowPart r j ++ [(r.1 + j, (Lib.fields r.2.1).getD j [], r.2.2)] := by
  unfold rowPart
  rw [List.take_succ_eq_append_getElem (by simpa using h)]
  simp [List.getD_eq_getElem?_getD, List.getElem?_eq_getElem h]

/-- An instruction's name and fields, by its number. -/
def info (op : Int) : List (Int × List UInt8 × List UInt8) → Option (List UInt8 × List UInt8)
  | [] => none
  | p :: r => if op = p.1 then some p.2 else info op r

/-- No number comes twice. -/
theorem fresh_at : ∀ k, k < 22 → ∀ j, j < (Lib.fields (rows.getD k (0, [], [])).2.1).length → info ((rows.getD k (0, [], [])).1 + (j : Int)) (tabTo k ++ rowPart (rows.getD k (0, [], [])) j) = none := by
  decide +kernel
theorem ascii_at : ∀ k, k < 22 → ∀ b ∈ (rows.getD k (0, [], [])).2.1, b.toNat < 128 := by decide +kernel
theorem short_at : ∀ k, k < 22 → (rows.getD k (0, [], [])).2.1.length < 100 ∧ (Lib.fields (rows.getD k (0, [], [])).2.1).length < 100 ∧ 0 ≤ (rows.getD k (0, [], [])).1 ∧ (rows.getD k (0, [], [])).1 < 100 := by decide +kernel
end Go.Proofs.YtmoplcchiadlpaaDoor.Jc
end
section
set_option linter.unusedVariables false
set_option linter.unusedSimpArgs false
namespace Go.Proofs.YtmoplcchiadlpaaDoor.Jc
open Go

/-- An instruction. -/
structure M where
  op : Int
  d : Int
  e : Int
  a : Int
  b : Int
  c : Int
  imm : Int
  args : List Int

def fieldsOf (op : Int) : List UInt8 := ((info op tab).getD ([], [])).2
def nameOf (op : Int) : List UInt8 := ((info op tab).getD ([], [])).1
def known (op : Int) : Bool := (info op tab).isSome

def isReg (x : UInt8) : Bool := x == 68 || x == 65 || x == 66 || x == 67
def regVal (m : M) (x : UInt8) : Int := if x = 68 then m.d else if x = 65 then m.a else if x = 66 then m.b else m.c

/-- Fields, parted: registers, and the number's letter (0: none). -/
def splitGo : List UInt8 → List UInt8 → UInt8 → List UInt8 × UInt8
  | [], regs, num => (regs, num)
  | x :: r, regs, num => if isReg x then splitGo r (regs ++ [x]) num else if x = 110 then (regs, x) else splitGo r regs x
def splitF (f : List UInt8) : List UInt8 × UInt8 := splitGo f [] 0
def regsF (op : Int) : List UInt8 := (splitF (fieldsOf op)).1
def numF (op : Int) : UInt8 := (splitF (fieldsOf op)).2

/-- Are the numbers 0, 1, ..? -/
def counts : Int → List Int → Bool
  | _, [] => true
  | n, x :: r => x == n && counts (n + 1) r

def shapeOk (m : M) : Bool :=
  known m.op &&
    (if m.op = 28 then counts 0 m.args && decide (m.args.length ≤ 4) && m.d == 0
     else if m.op = 29 then m.d == 0 && m.e == 1
     else if numF m.op = 98 ∨ m.op = 50 then m.e == 0 || m.e == 1
     else if numF m.op = 116 then decide (2 ≤ m.args.length) && decide (m.args.length ≤ 65)
     else true)

/-- The byte of a number that is so many places up; so many bytes, the highest first. -/
def byteAt (n : Int) (k : Nat) : UInt8 := UInt8.ofNat ((n / 256 ^ k) % 256).toNat
def numB (n : Int) : Nat → List UInt8
  | 0 => []
  | k + 1 => byteAt n k :: numB n k

/-- How many bytes a number has, the least and the greatest one. -/
def widthF (x : UInt8) (far : Bool) : Nat × Int × Int :=
  if x = 104 then (2, -32768, 32767) else if x = 119 then (4, -2147483648, 2147483647) else if x = 105 then (1, -128, 127)
  else if x = 115 then (1, 0, 31) else if x = 117 then (1, 0, 255) else if x = 112 then (2, 0, 16383) else if x = 110 then (1, 0, 4) else if x = 101 then (1, 0, 1)
  else if far = true ∨ x = 116 then (3, -8388608, 8388607) else (1, -128, 127)

def regOk (x : Int) : Bool := decide (0 ≤ x) && decide (x < 16)
def pairs : List Int → List UInt8
  | [] => []
  | [x] => [byteAt (16 * x) 0]
  | x :: y :: r => byteAt (16 * x + y) 0 :: pairs r

def fitsB (n : Int) (x : UInt8) (far : Bool) (e : Int) : Except Int (List UInt8) :=
  if (widthF x far).2.1 ≤ n ∧ n ≤ (widthF x far).2.2 then .ok (numB n (widthF x far).1) else .error e
def tableB : List Int → Except Int (List UInt8)
  | [] => .ok []
  | x :: r => match fitsB x 116 false 61, tableB r with
    | .ok s, .ok t => .ok (s ++ t)
    | .error e, _ => .error e
    | .ok _, .error e => .error e

def farOf (m : M) : Bool := decide (numF m.op = 98) && m.e == 1
def headB (m : M) : UInt8 := byteAt (m.op + if farOf m then 128 else 0) 0

/-- An instruction's number, in bytes. -/
def numPart (m : M) : Except Int (List UInt8) :=
  if numF m.op = 0 then .ok []
  else if numF m.op = 110 then .ok (numB m.args.length 1 ++ numB m.imm 4)
  else if numF m.op = 101 then .ok (numB m.e 1)
  else if numF m.op = 116 then (match tableB m.args with | .ok s => .ok (numB m.args.length 1 ++ s) | .error e => .error e)
  else if numF m.op = 98 then fitsB m.imm 98 (farOf m) 61
  else fitsB m.imm (numF m.op) (farOf m) 32

/-- P18.1. -/
def put (m : M) : Except Int (List UInt8) :=
  if shapeOk m = false then .error 30
  else if ((regsF m.op).map (regVal m)).all regOk = false then .error 31
  else match numPart m with
    | .ok s => .ok (headB m :: (pairs ((regsF m.op).map (regVal m)) ++ s))
    | .error e => .error e

/-- P18.3. -/
def sizeM (m : M) : Int :=
  if shapeOk m = false then 0
  else 1 + ((((regsF m.op).length + 1) / 2 : Nat) : Int) +
    (if numF m.op = 0 then 0 else if numF m.op = 110 then 5 else if numF m.op = 116 then 1 + 3 * (m.args.length : Int) else ((widthF (numF m.op) (farOf m)).1 : Int))

theorem info_mem {op : Int} {x : List UInt8 × List UInt8} : ∀ {l : List (Int × List UInt8 × List UInt8)}, info op l = some x → (op, x) ∈ l
  | [], h => by cases h
  | p :: r, h => by
    unfold info at h
    split at h
    · rename_i e
      cases h
      subst e
      exact List.mem_cons_self
    · exact List.mem_cons_of_mem _ (info_mem h)

/-- What holds of all rows of the table, and of what has no row, holds of each number. -/
theorem info_all (P : Int → List UInt8 → List UInt8 → Bool → Bool) (h0 : ∀ op, P op [] [] false = true) (h : ∀ p ∈ tab, P p.1 p.2.1 p.2.2 true = true) (op : Int) : P op (nameOf op) (fieldsOf op) (known op) = true := by
  unfold nameOf fieldsOf known
  cases hi : info op tab with
  | none => exact h0 op
  | some x => exact h _ (info_mem hi)

theorem has_b (op : Int) : decide (0 ≤ Lib.indexByte (fieldsOf op) 98) = decide (numF op = 98) := by
  have := info_all (fun _ _ f _ => decide (0 ≤ Lib.indexByte f 98) == decide ((splitF f).2 = 98)) (fun _ => by decide) (by decide +kernel) op
  exact eq_of_beq this
theorem has_t (op : Int) : decide (0 ≤ Lib.indexByte (fieldsOf op) 116) = decide (numF op = 116) := by
  have := info_all (fun _ _ f _ => decide (0 ≤ Lib.indexByte f 116) == decide ((splitF f).2 = 116)) (fun _ => by decide) (by decide +kernel) op
  exact eq_of_beq this
theorem known_28 : known 28 = true := by decide +kernel
theorem known_29 : known 29 = true := by decide +kernel
theorem known_50 : known 50 = true := by decide +kernel
theorem known_of_num (op : Int) (h : numF op ≠ 0) : known op = true := by
  have := info_all (fun _ _ f k => (splitF f).2 == 0 || k) (fun _ => by decide) (by decide +kernel) op
  simp only [Bool.or_eq_true, beq_iff_eq] at this
  exact this.resolve_left h

theorem counts_snoc : ∀ (l : List Int) (n x : Int), counts n (l ++ [x]) = (counts n l && x == n + l.length)
  | [], n, x => by simp [counts]
  | y :: r, n, x => by
    simp only [List.cons_append, counts, counts_snoc r (n + 1) x, List.length_cons]
    rw [Bool.and_assoc]
    congr 2
    have : n + 1 + (r.length : Int) = n + ((r.length + 1 : Nat) : Int) := by omega
    rw [this]
theorem take_snoc {α : Type} (l : List α) (k : Nat) (d : α) (h : k < l.length) : l.take (k + 1) = l.take k ++ [l.getD k d] := by
  rw [List.take_succ_eq_append_getElem h]
  simp [List.getD_eq_getElem?_getD, List.getElem?_eq_getElem h]
theorem counts_take (l : List Int) (k : Nat) (h : k < l.length) : counts 0 (l.take (k + 1)) = (counts 0 (l.take k) && l.getD k 0 == (k : Int)) := by
  rw [take_snoc l k 0 h, counts_snoc, List.length_take, Nat.min_eq_left (Nat.le_of_lt h)]
  simp

theorem pairs_append : ∀ (l r : List Int), l.length % 2 = 0 → pairs (l ++ r) = pairs l ++ pairs r
  | [], r, _ => rfl
  | [x], r, h => by simp at h
  | x :: y :: l, r, h => by
    have := pairs_append l r (by simp at h; omega)
    simp [pairs, this]
theorem regs_short (op : Int) : (regsF op).length ≤ 4 := by
  have := info_all (fun _ _ f _ => decide ((splitF f).1.length ≤ 4)) (fun _ => by decide) (by decide +kernel) op
  simpa [regsF] using this
theorem regs_are (op : Int) : ∀ x ∈ regsF op, isReg x = true := by
  have := info_all (fun _ _ f _ => (splitF f).1.all isReg) (fun _ => by decide) (by decide +kernel) op
  simpa [regsF] using this
theorem fields_short (op : Int) : (fieldsOf op).length ≤ 4 := by
  have := info_all (fun _ _ f _ => decide (f.length ≤ 4)) (fun _ => by decide) (by decide +kernel) op
  simpa using this
theorem nums_are (op : Int) : numF op = 0 ∨ numF op = 110 ∨ numF op = 101 ∨ numF op = 116 ∨ numF op = 98 ∨ numF op = 104 ∨ numF op = 119 ∨ numF op = 105 ∨ numF op = 115 ∨ numF op = 117 ∨ numF op = 112 := by
  have := info_all (fun _ _ f _ => decide ((splitF f).2 = 0 ∨ (splitF f).2 = 110 ∨ (splitF f).2 = 101 ∨ (splitF f).2 = 116 ∨ (splitF f).2 = 98 ∨ (splitF f).2 = 104 ∨ (splitF f).2 = 119 ∨ (splitF f).2 = 105 ∨ (splitF f).2 = 115 ∨ (splitF f).2 = 117 ∨ (splitF f).2 = 112)) (fun _ => by decide) (by decide +kernel) op
  simpa [numF] using this
theorem op_known (op : Int) (h : known op = true) : 1 ≤ op ∧ op ≤ 51 := by
  unfold known at h
  obtain ⟨x, hx⟩ := Option.isSome_iff_exists.1 h
  have := (by decide +kernel : ∀ p ∈ tab, 1 ≤ p.1 ∧ p.1 ≤ 51) _ (info_mem hx)
  exact this
end Go.Proofs.YtmoplcchiadlpaaDoor.Jc
end
section
set_option linter.unusedVariables false
set_option linter.unusedSimpArgs false
namespace Go.Proofs.YtmoplcchiadlpaaDoor.Jc
open Go Go.RowKit Go.ChangeMaps Go.Proofs.YtmoplcchiadlpaaDoorW.PrintWords

def cellsM (m : M) (a : Option Addr) (c : Nat) : Array Value := #[.int .i64 m.op, .int .i64 m.d, .int .i64 m.e, .int .i64 m.a, .int .i64 m.b, .int .i64 m.c, .int .i32 m.imm, .slice a m.args.length c]
/-- Its Args lie in memory. -/
structure ArgsIn (w : World) (m : M) (a : Option Addr) (c : Nat) : Prop where
  reads : ReadsInt w .i64 a m.args.length m.args
  cap : m.args.length ≤ c

theorem ArgsIn.below {w w1 : World} {m : M} {a : Option Addr} {c : Nat} (h : ArgsIn w m a c) (hb : Below w.heap.size w w1) : ArgsIn w1 m a c := ⟨h.reads.below hb, h.cap⟩

/-- All old cells, and all old marks, are as before. -/
theorem bcell {W w1 : World} (hb : Below W.heap.size W w1) : (∀ b o, b < W.heap.size → w1.cell? ⟨b, o, none⟩ = W.cell? ⟨b, o, none⟩) ∧ (∀ b o, b < W.heap.size → w1.frozen? ⟨b, o, none⟩ = W.frozen? ⟨b, o, none⟩) :=
  ⟨fun b o h => hb.cell (p := ⟨b, o, none⟩) h, fun b o h => hb.frozen (p := ⟨b, o, none⟩) h⟩

theorem below_drew_left {B : Nat} {w w1 : World} (h : Below B w.drew w1) : Below B w w1 := ⟨h.os, h.tape, h.output, h.size, h.block⟩
theorem below_drewN_left {B n : Nat} {w w1 : World} (h : Below B (w.drewN n) w1) : Below B w w1 := ⟨h.os, h.tape, h.output, h.size, h.block⟩

/-- A string of bytes. -/
abbrev bs (l : List UInt8) : ByteArray := ⟨l.toArray⟩
theorem bs_append (a b : List UInt8) : bs a ++ bs b = bs (a ++ b) := by
  apply ByteArray.ext
  simp [ByteArray.data_append]

/-- A block of cells, known whole. -/
theorem cell_blk {w : World} {b : Nat} {cs : Array Value} {t : TypeId} {fr : Nat × Nat} (h : w.heap[b]? = some (.cells cs t fr)) (i : Nat) : w.cell? ⟨b, i, none⟩ = cs[i]? := by simp [World.cell?, h]
theorem froz_blk {w : World} {b : Nat} {cs : Array Value} {t : TypeId} (h : w.heap[b]? = some (.cells cs t (0, 0))) (i : Nat) : w.frozen? ⟨b, i, none⟩ = false := by simp [World.frozen?, h]
theorem blk_lt' {w : World} {b : Nat} {o : Obj} (h : w.heap[b]? = some o) : b < w.heap.size := (Array.getElem?_eq_some_iff.1 h).1
theorem grown_below {w w1 : World} (h : Below w.heap.size w w1) (row : Option Nat) : w.grownBy w1 row := ⟨h.os, h.tape, h.output, h.size, fun i hi _ => h.block i hi⟩
theorem grown_set {w w1 : World} {b : Nat} (h : w.grownBy w1 (some b)) (i : Nat) (v : Value) : w.grownBy (w1.setCell ⟨b, i, none⟩ v) (some b) :=
  ⟨h.os, h.tape, h.output, by simpa [World.setCell] using h.size, fun k hk hne => by
    rw [← h.block k hk hne]
    have : k ≠ b := fun e => hne (by rw [e])
    simp [World.setCell, Array.getElem?_modify, this.symm]⟩
theorem set_blk1 {w : World} {b : Nat} {u v : Value} {t : TypeId} (h : w.heap[b]? = some (.cells #[u] t (0, 0))) : (w.setCell ⟨b, 0, none⟩ v).heap[b]? = some (.cells #[v] t (0, 0)) := by
  simp [World.setCell, Array.getElem?_modify, h]
theorem grown_alloc {w w1 : World} {row : Option Nat} (h : w.grownBy w1 row) (o : Obj) : w.grownBy (w1.alloc o) row := h.trans (World.grownBy_alloc w1 o row)
theorem grown_blk {w w1 : World} {b : Nat} {row : Option Nat} {o : Obj} (hb : w.heap[b]? = some o) (h : w.grownBy w1 row) (hne : some b ≠ row) : w1.heap[b]? = some o := (h.block b (blk_lt' hb) hne).trans hb
end Go.Proofs.YtmoplcchiadlpaaDoor.Jc
end
section
set_option linter.unusedVariables false
set_option linter.unusedSimpArgs false
namespace Go.Proofs.YtmoplcchiadlpaaDoor.Jc
open Go Go.RowKit Go.ChangeMaps Go.Proofs.YtmoplcchiadlpaaDoorW.PrintWords

theorem alloc_size (w : World) (o : Obj) : (w.alloc o).heap.size = w.heap.size + 1 := by simp
theorem alloc_at (w : World) (o : Obj) : (w.alloc o).heap[w.heap.size]? = some o := by
  show (w.heap.push o)[w.heap.size]? = some o
  simp
theorem alloc_old {w : World} {b : Nat} {o p : Obj} (h : w.heap[b]? = some p) : (w.alloc o).heap[b]? = some p := (heap_alloc_old _ _ (blk_lt' h)).trans h
/-- All blocks but one that is new, and newer ones, are as they were. -/
theorem grown_low {w0 w w1 : World} {b : Nat} (h0 : Below w0.heap.size w0 w) (h : w.grownBy w1 (some b)) (hb : w0.heap.size ≤ b) : Below w0.heap.size w0 w1 :=
  h0.trans ⟨h.os, h.tape, h.output, h.size, fun i hi => by
    by_cases hw : i < w.heap.size
    · exact h.block i hw (by simp; omega)
    · have := h0.size
      omega⟩
theorem below_alloc {w0 w : World} (h0 : Below w0.heap.size w0 w) (o : Obj) : Below w0.heap.size w0 (w.alloc o) := h0.alloc h0.size _
theorem below_set {w0 w : World} {b : Nat} (h0 : Below w0.heap.size w0 w) (hb : w0.heap.size ≤ b) (i : Nat) (v : Value) : Below w0.heap.size w0 (w.setCell ⟨b, i, none⟩ v) := h0.setCell hb v
theorem set_other {w : World} {b k : Nat} {o : Obj} (h : w.heap[b]? = some o) (hne : k ≠ b) (i : Nat) (v : Value) : (w.setCell ⟨k, i, none⟩ v).heap[b]? = some o := by
  rw [← h]
  simp [World.setCell, Array.getElem?_modify, hne]
theorem below_drewR {B : Nat} {w w1 : World} (h : Below B w w1) : Below B w w1.drew := ⟨h.os, h.tape, h.output, h.size, h.block⟩
end Go.Proofs.YtmoplcchiadlpaaDoor.Jc
end
section
set_option linter.unusedVariables false
set_option linter.unusedSimpArgs false
namespace Go.Proofs.YtmoplcchiadlpaaDoor.Jc
open Go Go.RowKit Go.ChangeMaps Go.Proofs.YtmoplcchiadlpaaDoorW.PrintWords

section
variable {P : Program} {ops : Array Oper} {rest : List Oper} {o : Oper} {a : Act} {Q : Exit → Act → World → Prop}
theorem app_lits {w0 W : World} (base : Nat) (hgd : o.guard = none) (s x : Operand) (t e : TypeId) (z : Value) (bytes : Nat)
    (ho : o.op = .call { callee := .builtin .append, args := #[s, x], argTypes := #[t, t] })
    (ht : P.underlying t = some (.slice e)) (hinfo : (P.info? e).map (fun i => (i.zero, i.size, i.bytes)) = some (some z, 1, bytes)) (hz : z.cells.size = 1) (hb0 : 0 < bytes)
    (v : Value) (xs ys : List Value) (m c : Nat) (hs : a.eval s = v) (hx : a.eval x = .slice (some ⟨W.heap.size, 0, none⟩) m c) (hm : m ≤ ys.length) (h1 : ∀ u ∈ ys, u.oneCell' = true)
    (HO : W.ownsRow base e 1 v xs.length xs) (HB : Below base w0 W) (hbase : base ≤ W.heap.size) (hl : (xs.length + m) * bytes ≤ 140737488355328)
    (h : ∀ v1 w1, w1.ownsRow base e 1 v1 (xs ++ ys.take m).length (xs ++ ys.take m) → Below base w0 w1 → wpList P ops Q rest (a.put o.dst v1) w1) :
    wpList P ops Q (o :: rest) a (W.alloc (.cells ys.toArray e)) := by
  obtain ⟨i0, hi, hzz⟩ := Option.map_eq_some_iff.1 hinfo
  simp only [Prod.mk.injEq] at hzz
  obtain ⟨hz0, hz1, hz2⟩ := hzz
  have hlen : xs.length + m ≤ 140737488355328 := Nat.le_trans (Nat.le_mul_of_pos_right _ hb0) hl
  have hnews := World.news_of_block (cs := ys.toArray) (t := e) (fr := (0, 0)) (heap_alloc_new W (.cells ys.toArray e))
  refine wpList_append_own_at (W.alloc (.cells ys.toArray e)) hgd s x t ho base e i0 z 1 bytes ht hi hz0 hz1 hz2 hz (by omega) v xs.length xs hs (HO.alloc _) ⟨W.heap.size, 0, none⟩ m c (ys.take m) hx (by rw [List.length_take]; omega)
    (fun j u hj => hnews j u (by
      rw [List.getElem?_take] at hj
      split at hj
      · simpa using hj
      · cases hj)) (fun u hu => h1 u (List.mem_of_mem_take hu)) (by simp only [maxLen]; omega) hl (by simp; omega) ?_
  intro v1 w1 hown hg _ hat
  refine h v1 w1 ?_ ((HB.alloc hbase _).grown hg (by simp; omega) (own_base HO))
  rw [List.length_append, List.length_take, Nat.min_eq_left hm]
  exact hown
/-- The same at a step of a region that draws its order. -/
theorem step_app_lits {w0 W : World} {K : Act → World → Prop} {E : Prop} (base : Nat) (hgd : o.guard = none) (s x : Operand) (t e : TypeId) (z : Value) (bytes : Nat)
    (ho : o.op = .call { callee := .builtin .append, args := #[s, x], argTypes := #[t, t] })
    (ht : P.underlying t = some (.slice e)) (hinfo : (P.info? e).map (fun i => (i.zero, i.size, i.bytes)) = some (some z, 1, bytes)) (hz : z.cells.size = 1) (hb0 : 0 < bytes)
    (v : Value) (xs ys : List Value) (m c : Nat) (hs : a.eval s = v) (hx : a.eval x = .slice (some ⟨W.heap.size, 0, none⟩) m c) (hm : m ≤ ys.length) (h1 : ∀ u ∈ ys, u.oneCell' = true)
    (HO : W.ownsRow base e 1 v xs.length xs) (HB : Below base w0 W) (hbase : base ≤ W.heap.size) (hl : (xs.length + m) * bytes ≤ 140737488355328)
    (h : ∀ v1 w1, w1.ownsRow base e 1 v1 (xs ++ ys.take m).length (xs ++ ys.take m) → Below base w0 w1 → K (a.put o.dst v1) w1) :
    if Region.wanted o (yielded ops a.tmps) = true then Oper.wp P o a (W.alloc (.cells ys.toArray e)) K Q else E := by
  have hw : Region.wanted o (yielded ops a.tmps) = true := by simp [Region.wanted, hgd]
  rw [if_pos hw]
  obtain ⟨i0, hi, hzz⟩ := Option.map_eq_some_iff.1 hinfo
  simp only [Prod.mk.injEq] at hzz
  obtain ⟨hz0, hz1, hz2⟩ := hzz
  have hlen : xs.length + m ≤ 140737488355328 := Nat.le_trans (Nat.le_mul_of_pos_right _ hb0) hl
  have hnews := World.news_of_block (cs := ys.toArray) (t := e) (fr := (0, 0)) (heap_alloc_new W (.cells ys.toArray e))
  obtain ⟨v1, w1, hr, hown, hg, _, hat⟩ := run_append_own_at (P := P) (W.alloc (.cells ys.toArray e)) base t o.type e i0 z 1 bytes ht hi hz0 hz1 hz2 hz (by omega) v xs.length xs (HO.alloc _) ⟨W.heap.size, 0, none⟩ m c (ys.take m) (by rw [List.length_take]; omega)
    (fun j u hj => hnews j u (by
      rw [List.getElem?_take] at hj
      split at hj
      · simpa using hj
      · cases hj)) (fun u hu => h1 u (List.mem_of_mem_take hu)) (by simp only [maxLen]; omega) hl (by simp; omega)
  unfold Oper.wp execOp
  simp only [ho, resolve, invoke, builtin, Sem.run_bind, Sem.run_pure, Result.andThen_ok, List.map_toArray, List.map_cons, List.map_nil, hs, hx, hr]
  refine h v1 w1 ?_ ((HB.alloc hbase _).grown hg (by simp; omega) (own_base HO))
  rw [List.length_append, List.length_take, Nat.min_eq_left hm]
  exact hown
end

theorem info_str : (Tryd.prog.info? 9).map (fun i => (i.zero, i.size, i.bytes)) = some (some (.string ⟨#[]⟩), 1, 16) := by kernel_rfl
def strs (l : List (List UInt8)) : List Value := l.map fun p => .string (bs p)
theorem strs_length (l : List (List UInt8)) : (strs l).length = l.length := by simp [strs]
theorem strs_append (l r : List (List UInt8)) : strs (l ++ r) = strs l ++ strs r := by simp [strs]
theorem itoa_le (n : Int) (h : -9223372036854775808 ≤ n ∧ n ≤ 9223372036854775807) : (Lib.itoa n).length ≤ 21 := Lib.itoa_length_le n h.1 h.2
theorem join_le : ∀ (l : List (List UInt8)) (B : Nat), (∀ p ∈ l, p.length ≤ B) → (Lib.join l [32]).length ≤ l.length * (B + 1)
  | [], B, _ => by simp [Lib.join_nil]
  | x :: r, B, h => by
    rw [Lib.join_cons, List.length_append, Lib.joinTail_length]
    have h1 : ∀ r : List (List UInt8), (∀ p ∈ r, p.length ≤ B) → Lib.lens r ≤ r.length * B := by
      intro r hr
      induction r with
      | nil => simp [Lib.lens]
      | cons y r ih =>
        have hy := hr y (by simp)
        have := ih (fun p hp => hr p (by simp [hp]))
        simp only [Lib.lens, List.map_cons, List.sum_cons, List.length_cons] at this ⊢
        rw [Nat.succ_mul]
        omega
    have h2 := h1 r (fun p hp => h p (by simp [hp]))
    have h3 := h x (by simp)
    have h4 : (r.length + 1) * (B + 1) = r.length * B + r.length + B + 1 := by rw [Nat.add_mul, Nat.mul_add]; omega
    simp only [List.length_cons, List.length_nil, Nat.zero_add, Nat.one_mul] at h4 ⊢
    rw [h4]
    omega
end Go.Proofs.YtmoplcchiadlpaaDoor.Jc
end
section
set_option linter.unusedVariables false
set_option linter.unusedSimpArgs false
namespace Go.Proofs.YtmoplcchiadlpaaDoor.Jc
open Go Go.RowKit Go.ChangeMaps Go.Proofs.YtmoplcchiadlpaaDoorW.PrintWords

set_option maxRecDepth 100000 in
set_option maxHeartbeats 2000000 in
theorem width_any (x : UInt8) (far : Bool) (w : World) :
    Calls Tryd.prog 52 #[.int .u8 x.toNat, .bool far] w fun e w' => e = .returned (.tuple #[.int .i64 (widthF x far).1, .int .i64 (widthF x far).2.1, .int .i64 (widthF x far).2.2]) ∧ w = w' := by
  by_cases h104 : x = 104
  · subst h104
    cases far <;> (go_enter Tryd.func52, Tryd.ntmps52; go_wp2_with fail; go_ret3; exact ⟨rfl, rfl⟩)
  by_cases h119 : x = 119
  · subst h119
    cases far <;> (go_enter Tryd.func52, Tryd.ntmps52; go_wp2_with fail; go_ret3; exact ⟨rfl, rfl⟩)
  by_cases h105 : x = 105
  · subst h105
    cases far <;> (go_enter Tryd.func52, Tryd.ntmps52; go_wp2_with fail; go_ret3; exact ⟨rfl, rfl⟩)
  by_cases h115 : x = 115
  · subst h115
    cases far <;> (go_enter Tryd.func52, Tryd.ntmps52; go_wp2_with fail; go_ret3; exact ⟨rfl, rfl⟩)
  by_cases h117 : x = 117
  · subst h117
    cases far <;> (go_enter Tryd.func52, Tryd.ntmps52; go_wp2_with fail; go_ret3; exact ⟨rfl, rfl⟩)
  by_cases h112 : x = 112
  · subst h112
    cases far <;> (go_enter Tryd.func52, Tryd.ntmps52; go_wp2_with fail; go_ret3; exact ⟨rfl, rfl⟩)
  by_cases h110 : x = 110
  · subst h110
    cases far <;> (go_enter Tryd.func52, Tryd.ntmps52; go_wp2_with fail; go_ret3; exact ⟨rfl, rfl⟩)
  by_cases h101 : x = 101
  · subst h101
    cases far <;> (go_enter Tryd.func52, Tryd.ntmps52; go_wp2_with fail; go_ret3; exact ⟨rfl, rfl⟩)
  by_cases h116 : x = 116
  · subst h116
    cases far <;> (go_enter Tryd.func52, Tryd.ntmps52; go_wp2_with fail; go_ret3; exact ⟨rfl, rfl⟩)
  have hne : ∀ c : UInt8, x ≠ c → ((x.toNat : Int) == (c.toNat : Int)) = false := fun c h => by
    rw [beq_eq_false_iff_ne]
    intro e
    exact h (UInt8.toNat_inj.1 (by omega))
  have n104 : ((x.toNat : Int) == 104) = false := hne 104 h104
  have n119 : ((x.toNat : Int) == 119) = false := hne 119 h119
  have n105 : ((x.toNat : Int) == 105) = false := hne 105 h105
  have n115 : ((x.toNat : Int) == 115) = false := hne 115 h115
  have n117 : ((x.toNat : Int) == 117) = false := hne 117 h117
  have n112 : ((x.toNat : Int) == 112) = false := hne 112 h112
  have n110 : ((x.toNat : Int) == 110) = false := hne 110 h110
  have n101 : ((x.toNat : Int) == 101) = false := hne 101 h101
  have n116 : ((x.toNat : Int) == 116) = false := hne 116 h116
  have hw : widthF x far = if far = true then (3, -8388608, 8388607) else (1, -128, 127) := by
    unfold widthF
    rw [if_neg h104, if_neg h119, if_neg h105, if_neg h115, if_neg h117, if_neg h112, if_neg h110, if_neg h101]
    simp [h116]
  rw [hw]
  clear hne hw h104 h119 h105 h115 h117 h112 h110 h101 h116
  generalize (x.toNat : Int) = n at *
  cases far <;> (go_enter Tryd.func52, Tryd.ntmps52; go_wp2_with fail; go_ret3; exact ⟨rfl, rfl⟩)

theorem info_u8 : (Tryd.prog.info? 5).map (fun i => (i.zero, i.size, i.bytes)) = some (some (.int .u8 0), 1, 1) := by kernel_rfl

theorem numB_length (n : Int) : ∀ k, (numB n k).length = k
  | 0 => rfl
  | k + 1 => by simp [numB, numB_length n k]
theorem numB_at (n : Int) : ∀ k i, i < k → (numB n k).getD (k - 1 - i) 0 = byteAt n i
  | 0, i, h => by omega
  | k + 1, i, h => by
    by_cases e : i = k
    · subst e
      simp [numB]
    · have : k + 1 - 1 - i = (k - 1 - i) + 1 := by omega
      rw [this]
      simp only [numB, List.getD_cons_succ]
      exact numB_at n k i (by omega)

def asInts (l : List UInt8) : List Int := l.map fun b => (b.toNat : Int)
theorem str_asInts (l : List UInt8) : strOfNums (asInts l) = bs l := by
  unfold strOfNums asInts
  rw [List.map_map]
  have : ((fun n : Int => UInt8.ofNat n.toNat) ∘ fun b : UInt8 => (b.toNat : Int)) = id := by
    funext b
    simp
  rw [this, List.map_id]
theorem byteAt_int (n : Int) (k : Nat) : ((byteAt n k).toNat : Int) = (n / 256 ^ k) % 256 := by
  unfold byteAt
  have h1 : 0 ≤ (n / 256 ^ k) % 256 := Int.emod_nonneg _ (by decide)
  have h2 : (n / 256 ^ k) % 256 < 256 := Int.emod_lt_of_pos _ (by decide)
  rw [UInt8.toNat_ofNat']
  omega

set_option maxRecDepth 100000 in
set_option maxHeartbeats 1000000 in
theorem number_any (n : Int) (k : Nat) (hk : k ≤ 4) (w : World) :
    Calls Tryd.prog 35 #[.int .i64 n, .int .i64 k] w fun e w' => e = .returned (.string (bs (numB n k))) ∧ Below w.heap.size w w' := by
  go_enter Tryd.func35, Tryd.ntmps35
  go_wp2_with fail
  go_loopw [5, 6] (fun v i wr => ∃ j : Nat, j ≤ k ∧ i = .int .i64 ((j : Int) - 1) ∧ Aside0 (wr.ownsRow w.heap.size 5 1 v (asInts ((numB n k).take (k - j))).length (nums .u8 (asInts ((numB n k).take (k - j))))) ∧ Aside0 (Below w.heap.size w wr)) (fun _ i _ => (intOf i + 1).toNat)
  case atStart => exact ⟨k, Nat.le_refl _, rfl, ⟨by rw [Nat.sub_self]; exact own_nil _ _ _ _⟩, ⟨Below.refl _ _⟩⟩
  case round =>
    obtain ⟨j, hj, rfl, HO, HB⟩ := hrel
    cases j with
    | zero =>
      have hcv := own_string (P := Tryd.prog) Tryd.underlying43 Tryd.underlying5 Tryd.underlying9 HO.out
      rw [str_asInts, Nat.sub_zero, show (numB n k).take k = numB n k from by rw [List.take_of_length_le (by rw [numB_length]; exact Nat.le_refl _)]] at hcv
      go_wp2_with fail
      go_ret
      exact ⟨rfl, HB.out⟩
    | succ j =>
      have hstep : asInts ((numB n k).take (k - j)) = asInts ((numB n k).take (k - (j + 1))) ++ [n / 2 ^ (8 * j) % 256] := by
        have e : k - j = (k - (j + 1)) + 1 := by omega
        rw [e, take_snoc _ _ (0 : UInt8) (by rw [numB_length]; omega), show k - (j + 1) = k - 1 - j by omega, numB_at n k j (by omega)]
        unfold asInts
        rw [List.map_append, List.map_cons, List.map_nil, byteAt_int, show (256 : Int) ^ j = 2 ^ (8 * j) by rw [Int.pow_mul]; rfl]
      have HST := Lib.hid hstep
      clear hstep
      have hlen : (asInts ((numB n k).take (k - (j + 1)))).length ≤ 4 := by
        unfold asInts
        rw [List.length_map]
        have := List.length_take_le (k - (j + 1)) (numB n k)
        omega
      go_wp2_with (at_builtin; refine print_append_num w.heap.size rfl (.tmp 13) (.tmp 19) 43 5 .u8 1 rfl Tryd.underlying43 info_u8 (by decide) _ (asInts ((numB n k).take (k - (j + 1)))) (n / 2 ^ (8 * j) % 256) rfl rfl HO.out HB.out HB.out.size (by omega) ?_; intro v1 w1 hown hB hg hat)
      go_roundw
      case rel => exact ⟨j, by omega, by go_num, ⟨by rw [HST.out]; exact hown⟩, ⟨hB⟩⟩
      case measure => simp [intOf]

/-- fits, where the number fits. -/
theorem fits_ok (n : Int) (x : UInt8) (far : Bool) (e : Int) (h1 : (widthF x far).2.1 ≤ n) (h2 : n ≤ (widthF x far).2.2) (hw : (widthF x far).1 ≤ 4) (w : World) :
    Calls Tryd.prog 37 #[.int .i64 n, .int .u8 x.toNat, .bool far, .int .i64 e] w fun e' w' => e' = .returned (.string (bs (numB n (widthF x far).1))) ∧ Below w.heap.size w w' := by
  have HW := Lib.hid (fun W => width_any x far W)
  generalize widthF x far = q at *
  obtain ⟨b, lo, hi⟩ := q
  dsimp only at h1 h2 hw
  go_enter Tryd.func37, Tryd.ntmps37
  go_wp2_with fail
  refine (HW.out _).mono ?_
  rintro e1 w1 ⟨rfl, rfl⟩
  go_wp2_with fail
  refine (must_ok e _).mono ?_
  rintro e1 w1 ⟨rfl, rfl⟩
  go_wp2_with fail
  refine (number_any n b hw _).mono ?_
  rintro e1 w1 ⟨rfl, hb⟩
  go_wp2_with fail
  go_ret
  exact ⟨rfl, hb⟩

set_option maxRecDepth 100000 in
/-- fits, where it does not. -/
theorem fits_no (n : Int) (x : UInt8) (far : Bool) (e : Int) (h : ¬ ((widthF x far).2.1 ≤ n ∧ n ≤ (widthF x far).2.2)) (w : World) :
    Calls Tryd.prog 37 #[.int .i64 n, .int .u8 x.toNat, .bool far, .int .i64 e] w fun e' w' => e' = .panicked [{ v := trouble e, recovered := false }] ∧ w = w' := by
  have HW := Lib.hid (fun W => width_any x far W)
  generalize widthF x far = q at *
  obtain ⟨b, lo, hi⟩ := q
  dsimp only at h
  have h' : n < lo ∨ (lo ≤ n ∧ hi < n) := by omega
  clear h
  have h2' : (decide (lo ≤ n) = false) ∨ (decide (lo ≤ n) = true ∧ decide (n ≤ hi) = false) := by
    rcases h' with h | ⟨h, h2⟩
    · exact .inl (by simp; omega)
    · exact .inr ⟨by simpa using h, by simp; omega⟩
  clear h'
  rcases h2' with h | ⟨h, h2⟩
  all_goals
    go_enter Tryd.func37, Tryd.ntmps37
    go_wp2_with fail
    refine (HW.out _).mono ?_
    rintro e1 w1 ⟨rfl, rfl⟩
    go_wp2_with fail
    refine (must_no e _).mono ?_
    rintro e1 w1 ⟨rfl, rfl⟩
    go_wp2_with fail
    exact ⟨rfl, rfl, rfl⟩
end Go.Proofs.YtmoplcchiadlpaaDoor.Jc
end
section
set_option linter.unusedVariables false
set_option linter.unusedSimpArgs false
namespace Go.Proofs.YtmoplcchiadlpaaDoor.Jc
open Go

def valsM (m : M) : List Int := (regsF m.op).map (regVal m)
theorem valsM_length (m : M) : (valsM m).length = (regsF m.op).length := by simp [valsM]
theorem valsM_at (m : M) (k : Nat) (h : k < (regsF m.op).length) : (valsM m).getD k 0 = regVal m ((regsF m.op)[k]'h) := by
  simp [valsM, List.getD_eq_getElem?_getD, h]

theorem all_take_snoc (l : List Int) (k : Nat) (h : k < l.length) : (l.take (k + 1)).all regOk = ((l.take k).all regOk && regOk (l.getD k 0)) := by
  rw [take_snoc l k 0 h, List.all_append]
  simp
theorem all_of_take (l : List Int) (k : Nat) (h : (l.take k).all regOk = false) : l.all regOk = false := by
  rw [← List.take_append_drop k l, List.all_append, h]
  rfl
theorem put_reg (m : M) (k : Nat) (hs : shapeOk m = true) (h : ((valsM m).take k).all regOk = false) : put m = .error 31 := by
  unfold put
  rw [if_neg (by rw [hs]; simp)]
  exact if_pos (all_of_take _ k h)
theorem pairs_two (l : List Int) (k : Nat) (h : k + 1 < l.length) (he : k % 2 = 0) : pairs (l.take (k + 2)) = pairs (l.take k) ++ [byteAt (16 * l.getD k 0 + l.getD (k + 1) 0) 0] := by
  rw [take_snoc l (k + 1) 0 h, take_snoc l k 0 (by omega), List.append_assoc, pairs_append _ _ (by rw [List.length_take]; omega)]
  rfl
theorem pairs_last (l : List Int) (k : Nat) (h : k + 1 = l.length) (he : k % 2 = 0) : pairs (l.take (k + 2)) = pairs (l.take k) ++ [byteAt (16 * l.getD k 0 + 0) 0] := by
  have e : l.take (k + 2) = l.take k ++ [l.getD k 0] := by
    rw [← take_snoc l k 0 (by omega), List.take_of_length_le (show l.length ≤ k + 2 by omega), List.take_of_length_le (show l.length ≤ k + 1 by omega)]
  rw [e, pairs_append _ _ (by rw [List.length_take]; omega), Int.add_zero]
  rfl
theorem reg_off (m : M) (a : Option Addr) (c : Nat) (x : UInt8) (h : isReg x = true) : ∃ off : Int, (((x.toNat : Int) = 68 ∧ off = 1) ∨ ((x.toNat : Int) = 65 ∧ off = 3) ∨ ((x.toNat : Int) = 66 ∧ off = 4) ∨ ((x.toNat : Int) = 67 ∧ off = 5)) ∧
    (cellsM m a c)[off.toNat]? = some (.int .i64 (regVal m x)) := by
  unfold isReg at h
  simp only [Bool.or_eq_true, beq_iff_eq] at h
  rcases h with ((h | h) | h) | h
  · exact ⟨1, .inl ⟨by rw [h]; rfl, rfl⟩, by rw [h]; rfl⟩
  · exact ⟨3, .inr (.inl ⟨by rw [h]; rfl, rfl⟩), by rw [h]; rfl⟩
  · exact ⟨4, .inr (.inr (.inl ⟨by rw [h]; rfl, rfl⟩)), by rw [h]; rfl⟩
  · exact ⟨5, .inr (.inr (.inr ⟨by rw [h]; rfl, rfl⟩)), by rw [h]; rfl⟩
theorem regOk_iff (x : Int) : regOk x = true ↔ 0 ≤ x ∧ x < 16 := by simp [regOk]
theorem pairs_le : ∀ l : List Int, (pairs l).length ≤ l.length
  | [] => by simp [pairs]
  | [x] => by simp [pairs]
  | x :: y :: l => by
    have := pairs_le l
    simp [pairs]
    omega
theorem bs_size (l : List UInt8) : (bs l).size = l.length := by simp [ByteArray.size]
theorem head_size (m : M) (k : Nat) : (bs (headB m :: pairs ((valsM m).take k))).size ≤ 100 := by
  rw [bs_size]
  have h1 := pairs_le ((valsM m).take k)
  have h2 := List.length_take_le k (valsM m)
  have h3 := valsM_length m
  have h4 := regs_short m.op
  have h5 := List.length_take_le' k (valsM m)
  simp
  omega
theorem pairs_short (m : M) (k : Nat) : (pairs (List.take k (valsM m))).length ≤ 99 := by
  have h := head_size m k
  rw [bs_size] at h
  simp at h
  omega
theorem wrap_i64 {n : Int} (h1 : -9223372036854775808 ≤ n) (h2 : n ≤ 9223372036854775807) : IntKind.i64.wrap n = n := by
  simp [IntKind.wrap, IntKind.bits, IntKind.signed]
  omega
/-- Two registers, one of which is none of sixteen. -/
theorem not_ok {X Y : Int} (h : ¬ (0 ≤ X ∧ X < 16 ∧ 0 ≤ Y ∧ Y < 16)) : decide (0 ≤ X) = false ∨ (decide (0 ≤ X) = true ∧ decide (X < 16) = false) ∨ (decide (0 ≤ X) = true ∧ decide (X < 16) = true ∧ decide (0 ≤ Y) = false) ∨ (decide (0 ≤ X) = true ∧ decide (X < 16) = true ∧ decide (0 ≤ Y) = true ∧ decide (Y < 16) = false) := by
  simp only [decide_eq_true_eq, decide_eq_false_iff_not]
  omega
end Go.Proofs.YtmoplcchiadlpaaDoor.Jc
end
section
set_option linter.unusedVariables false
set_option linter.unusedSimpArgs false
namespace Go.Proofs.YtmoplcchiadlpaaDoor.Jc
open Go Go.RowKit Go.ChangeMaps Go.Proofs.YtmoplcchiadlpaaDoorW.PrintWords

def In64 (n : Int) : Prop := -9223372036854775808 ≤ n ∧ n ≤ 9223372036854775807
/-- An instruction whose numbers are Go's. -/
structure InR (m : M) : Prop where
  imm : -2147483648 ≤ m.imm ∧ m.imm ≤ 2147483647
  op : In64 m.op
  d : In64 m.d
  e : In64 m.e
  a : In64 m.a
  b : In64 m.b
  c : In64 m.c
  args : ∀ x ∈ m.args, In64 x
  few : m.args.length ≤ 1000000

theorem width_le (x : UInt8) (far : Bool) : (widthF x far).1 ≤ 4 := by
  unfold widthF
  repeat' split
  all_goals simp
theorem fitsB_ok {n e : Int} {x : UInt8} {far : Bool} {s : List UInt8} (h : fitsB n x far e = .ok s) : (widthF x far).2.1 ≤ n ∧ n ≤ (widthF x far).2.2 ∧ s = numB n (widthF x far).1 := by
  unfold fitsB at h
  split at h
  · rename_i h1
    cases h
    exact ⟨h1.1, h1.2, rfl⟩
  · cases h
theorem fitsB_no {n e k : Int} {x : UInt8} {far : Bool} (h : fitsB n x far e = .error k) : ¬ ((widthF x far).2.1 ≤ n ∧ n ≤ (widthF x far).2.2) ∧ k = e := by
  unfold fitsB at h
  split at h
  · cases h
  · rename_i h1
    cases h
    exact ⟨h1, rfl⟩
theorem fitsB_size {n e : Int} {x : UInt8} {far : Bool} {s : List UInt8} (h : fitsB n x far e = .ok s) : (bs s).size ≤ 4 := by
  rw [bs_size, (fitsB_ok h).2.2, numB_length]
  exact width_le x far
theorem fits_is {n e : Int} {x : UInt8} {far : Bool} {s : List UInt8} (h : fitsB n x far e = .ok s) (w : World) :
    Calls Tryd.prog 37 #[.int .i64 n, .int .u8 x.toNat, .bool far, .int .i64 e] w fun e' w' => e' = .returned (.string (bs s)) ∧ Below w.heap.size w w' := by
  obtain ⟨h1, h2, rfl⟩ := fitsB_ok h
  exact fits_ok n x far e h1 h2 (width_le x far) w
theorem fits_isnt {n e k : Int} {x : UInt8} {far : Bool} (h : fitsB n x far e = .error k) (w : World) :
    Calls Tryd.prog 37 #[.int .i64 n, .int .u8 x.toNat, .bool far, .int .i64 e] w fun e' w' => e' = .panicked [{ v := trouble e, recovered := false }] ∧ w = w' :=
  fits_no n x far e (fitsB_no h).1 w

/-- The same, said so that the walk through a region goes on behind the panic, from what is not so. -/
theorem fits_dies {n e k : Int} {x : UInt8} {far : Bool} (h : fitsB n x far e = .error k) (w : World) :
    Calls Tryd.prog 37 #[.int .i64 n, .int .u8 x.toNat, .bool far, .int .i64 e] w fun e' w' => (e' = .panicked [{ v := trouble e, recovered := false }] ∧ w = w') ∨ (Hid False ∧ e' = .returned (.string ⟨#[]⟩) ∧ w = w') :=
  (fits_isnt h w).mono fun _ _ q => .inl q
theorem grown_drew {w w1 : World} {row : Option Nat} (h : w.grownBy w1 row) : w.grownBy w1.drew row := ⟨h.os, h.tape, h.output, h.size, h.block⟩
theorem u8_ne {x c : UInt8} {n : Int} (hc : (c.toNat : Int) = n) (h : x ≠ c) : ((x.toNat : Int) == n) = false := by
  rw [beq_eq_false_iff_ne]
  intro e
  exact h (UInt8.toNat_inj.1 (by omega))
theorem number_i (n k : Int) (hk : 0 ≤ k ∧ k ≤ 4) (w : World) :
    Calls Tryd.prog 35 #[.int .i64 n, .int .i64 k] w fun e w' => e = .returned (.string (bs (numB n k.toNat))) ∧ Below w.heap.size w w' := by
  have h := number_any n k.toNat (by omega) w
  rwa [Int.toNat_of_nonneg hk.1] at h

theorem tableB_snoc (x : Int) : ∀ l : List Int, tableB (l ++ [x]) = match tableB l with
    | .ok s => (match fitsB x 116 false 61 with | .ok t => .ok (s ++ t) | .error e => .error e)
    | .error e => .error e
  | [] => by
    simp only [List.nil_append, tableB]
    cases fitsB x 116 false 61 <;> simp
  | y :: l => by
    simp only [List.cons_append, tableB, tableB_snoc x l]
    cases fitsB y 116 false 61 <;> cases tableB l <;> cases fitsB x 116 false 61 <;> simp
theorem tableB_err : ∀ (l : List Int) (e : Int), tableB l = .error e → e = 61
  | [], e, h => by simp [tableB] at h
  | x :: l, e, h => by
    simp only [tableB] at h
    cases hx : fitsB x 116 false 61 with
    | error k =>
      rw [hx] at h
      cases h
      exact (fitsB_no hx).2
    | ok s =>
      rw [hx] at h
      cases ht : tableB l with
      | error k =>
        rw [ht] at h
        cases h
        exact tableB_err l _ ht
      | ok t => rw [ht] at h; cases h
theorem tableB_bad (e : Int) : ∀ (l r : List Int), tableB l = .error e → tableB (l ++ r) = .error 61
  | [], r, h => by simp [tableB] at h
  | x :: l, r, h => by
    simp only [tableB, List.cons_append] at h ⊢
    cases hx : fitsB x 116 false 61 with
    | error k =>
      simp only []
      rw [(fitsB_no hx).2]
    | ok s =>
      rw [hx] at h
      cases ht : tableB l with
      | error k => simp only [tableB_bad k l r ht]
      | ok t => rw [ht] at h; cases h
theorem tableB_len : ∀ (l : List Int) (s : List UInt8), tableB l = .ok s → s.length = 3 * l.length
  | [], s, h => by simp [tableB] at h; simp [← h]
  | x :: l, s, h => by
    simp only [tableB] at h
    cases hx : fitsB x 116 false 61 with
    | error k => rw [hx] at h; cases h
    | ok t =>
      rw [hx] at h
      cases ht : tableB l with
      | error k => rw [ht] at h; cases h
      | ok u =>
        rw [ht] at h
        cases h
        have h1 := tableB_len l u ht
        have h2 : t.length = 3 := by rw [(fitsB_ok hx).2.2, numB_length]; rfl
        simp [h1, h2]
        omega
/-- A table's first entries, and one more. -/
theorem tableB_more (l : List Int) (k : Nat) (h : k < l.length) {s t : List UInt8} (h1 : tableB (l.take k) = .ok s) (h2 : fitsB (l.getD k 0) 116 false 61 = .ok t) : tableB (l.take (k + 1)) = .ok (s ++ t) := by
  rw [take_snoc l k 0 h, tableB_snoc, h1, h2]
theorem tableB_stop (l : List Int) (k : Nat) (h : k < l.length) {s : List UInt8} {e : Int} (h1 : tableB (l.take k) = .ok s) (h2 : fitsB (l.getD k 0) 116 false 61 = .error e) : tableB l = .error 61 := by
  rw [← List.take_append_drop (k + 1) l]
  apply tableB_bad e
  rw [take_snoc l k 0 h, tableB_snoc, h1, h2]

theorem put_full (m : M) (hs : shapeOk m = true) (ha : (valsM m).all regOk = true) : put m = match numPart m with
    | .ok s => .ok (headB m :: (pairs (valsM m) ++ s))
    | .error e => .error e := by
  unfold put
  rw [if_neg (by rw [hs]; simp), if_neg (by rw [show (regsF m.op).map (regVal m) = valsM m from rfl, ha]; simp)]
  rfl
theorem full_size (m : M) : (bs (headB m :: pairs (valsM m))).size ≤ 100 := by
  have h := head_size m (valsM m).length
  rwa [List.take_length] at h
theorem shape_116 (m : M) (hs : shapeOk m = true) (h : numF m.op = 116) : m.args.length ≤ 65 := by
  have h1 : m.op ≠ 28 := fun e => by rw [e] at h; exact absurd h (by decide +kernel)
  have h2 : m.op ≠ 29 := fun e => by rw [e] at h; exact absurd h (by decide +kernel)
  have h3 : m.op ≠ 50 := fun e => by rw [e] at h; exact absurd h (by decide +kernel)
  unfold shapeOk at hs
  rw [if_neg h1, if_neg h2, if_neg (by simp [h, h3]), if_pos h] at hs
  simp at hs
  exact hs.2.2
theorem shape_110 (m : M) (hs : shapeOk m = true) (h : numF m.op = 110) : m.args.length ≤ 4 := by
  have h1 : m.op = 28 := by
    have := info_all (fun op _ f _ => !((splitF f).2 == 110) || op == 28) (fun _ => rfl) (by decide +kernel) m.op
    simp [numF] at this h
    rcases this with h0 | h0
    · exact absurd h h0
    · exact h0
  unfold shapeOk at hs
  rw [if_pos h1] at hs
  simp at hs
  exact hs.2.1.2
theorem below_step {w0 w w1 : World} (h : Below w0.heap.size w0 w) (hb : Below w.heap.size w w1) : Below w0.heap.size w0 w1 := h.trans (hb.mono h.size)
end Go.Proofs.YtmoplcchiadlpaaDoor.Jc
end
section
set_option linter.unusedVariables false
set_option linter.unusedSimpArgs false
namespace Go.Proofs.YtmoplcchiadlpaaDoor.Jc
open Go Go.RowKit Go.ChangeShapes Go.WideShapes Go.ChangeAt Go.Proofs.YtmoplcchiadlpaaDoorW.PrintWords

set_option maxRecDepth 100000
section
variable {H : Type} {enc : TypeId × Value → H} {w : World} {base : Nat} {held : Bool} {r : Reach} {b0 : Nat} {v : Value} {d : DataW H} {p : List MemPlace}

theorem in64_wf {n : Int} (h : (Lit.int .i64 n).wf = true) : In64 n := by
  simp [Lit.wf, IntKind.min, IntKind.max, IntKind.bits, IntKind.signed] at h
  exact ⟨h.1, by omega⟩
theorem in32_wf {n : Int} (h : (Lit.int .i32 n).wf = true) : -2147483648 ≤ n ∧ n ≤ 2147483647 := by
  simp [Lit.wf, IntKind.min, IntKind.max, IntKind.bits, IntKind.signed] at h
  exact ⟨h.1, by omega⟩

/-- A row of numbers, out of an argument. -/
theorem reads_ints {fuel : Nat} {c : Value} {x : DataW H × List MemPlace} (h : DataW.trod enc Tryd.prog w base (fun _ => true) held fuel 22 [c] = some x) :
    ∃ (a : Option Addr) (k : Nat) (l : List Int), c = .slice a l.length k ∧ ReadsInt w .i64 a l.length l ∧ l.length ≤ k ∧ ∀ y ∈ l, In64 y := by
  rcases open_ints Tryd.underlying22 Tryd.underlying3 (by kernel_rfl) h with ⟨hcs, _⟩ | ⟨x, l, k, zs, hcs, _, hl, hm, hz, _, hcell, hwz⟩
  · simp at hcs
    subst hcs
    exact ⟨none, 0, [], rfl, ReadsInt.nil _ _, Nat.le_refl _, fun y hy => by simp at hy⟩
  · simp at hcs
    subst hcs
    have hzl : zs.length = k := by simpa using hz
    have hlen : (zs.take l).length = l := by rw [List.length_take]; omega
    refine ⟨some x, k, zs.take l, by rw [hlen], ⟨rfl, by rw [hlen]; unfold maxLen at hm; omega, fun _ => ⟨x, rfl, fun j hj => ?_⟩⟩, by omega, fun y hy => in64_wf (hwz y (List.mem_of_mem_take hy))⟩
    rw [hlen] at hj
    rw [hcell j (by omega)]
    simp [List.getD_eq_getElem?_getD, List.getElem?_take, hj]

/-- An instruction, as it came in. -/
theorem open_mach (hv : Value.okWide Tryd.prog w r b0 24 v) (h : DataW.Trod enc Tryd.prog w base (fun _ => true) held 24 v d p) :
    ∃ (m : M) (a : Option Addr) (c : Nat), v = .agg (cellsM m a c) ∧ ArgsIn w m a c ∧ (-2147483648 ≤ m.imm ∧ m.imm ≤ 2147483647) ∧ In64 m.op ∧ In64 m.d ∧ In64 m.e ∧ In64 m.a ∧ In64 m.b ∧ In64 m.c ∧ ∀ x ∈ m.args, In64 x := by
  obtain ⟨cs, rfl, hsz⟩ := okWide_struct Tryd.underlying24 hv
  have hC : Tryd.prog.cellsOf 24 = 8 := by kernel_rfl
  have c3 : Tryd.prog.cellsOf 3 = 1 := by kernel_rfl
  have c21 : Tryd.prog.cellsOf 21 = 1 := by kernel_rfl
  have c22 : Tryd.prog.cellsOf 22 = 1 := by kernel_rfl
  obtain ⟨fuel, hf⟩ := h
  obtain ⟨l⟩ := cs
  have hl : l.length = 8 := by simpa using hsz.trans hC
  match l, hl with
  | [x0, x1, x2, x3, x4, x5, x6, x7], _ =>
    obtain ⟨xs, n, _, _, _, hlen, hx⟩ := DataW.trod_struct Tryd.underlying24 hf
    match xs, hlen with
    | [y0, y1, y2, y3, y4, y5, y6, y7], _ =>
      have g0 : DataW.trod enc Tryd.prog w base (fun _ => true) held n 3 [x0] = some y0 := by simpa [c3, c21, c22, Value.cells] using hx 0 _ rfl
      have g1 : DataW.trod enc Tryd.prog w base (fun _ => true) held n 3 [x1] = some y1 := by simpa [c3, c21, c22, Value.cells] using hx 1 _ rfl
      have g2 : DataW.trod enc Tryd.prog w base (fun _ => true) held n 3 [x2] = some y2 := by simpa [c3, c21, c22, Value.cells] using hx 2 _ rfl
      have g3 : DataW.trod enc Tryd.prog w base (fun _ => true) held n 3 [x3] = some y3 := by simpa [c3, c21, c22, Value.cells] using hx 3 _ rfl
      have g4 : DataW.trod enc Tryd.prog w base (fun _ => true) held n 3 [x4] = some y4 := by simpa [c3, c21, c22, Value.cells] using hx 4 _ rfl
      have g5 : DataW.trod enc Tryd.prog w base (fun _ => true) held n 3 [x5] = some y5 := by simpa [c3, c21, c22, Value.cells] using hx 5 _ rfl
      have g6 : DataW.trod enc Tryd.prog w base (fun _ => true) held n 21 [x6] = some y6 := by simpa [c3, c21, c22, Value.cells] using hx 6 _ rfl
      have g7 : DataW.trod enc Tryd.prog w base (fun _ => true) held n 22 [x7] = some y7 := by simpa [c3, c21, c22, Value.cells] using hx 7 _ rfl
      obtain ⟨n0, e0, _, w0⟩ := DataW.trod_int Tryd.underlying3 g0
      obtain ⟨n1, e1, _, w1⟩ := DataW.trod_int Tryd.underlying3 g1
      obtain ⟨n2, e2, _, w2⟩ := DataW.trod_int Tryd.underlying3 g2
      obtain ⟨n3, e3, _, w3⟩ := DataW.trod_int Tryd.underlying3 g3
      obtain ⟨n4, e4, _, w4⟩ := DataW.trod_int Tryd.underlying3 g4
      obtain ⟨n5, e5, _, w5⟩ := DataW.trod_int Tryd.underlying3 g5
      obtain ⟨n6, e6, _, w6⟩ := DataW.trod_int Tryd.underlying21 g6
      obtain ⟨a, k, l, e7, hr, hk, hl⟩ := reads_ints g7
      simp at e0 e1 e2 e3 e4 e5 e6
      subst e0 e1 e2 e3 e4 e5 e6 e7
      exact ⟨⟨n0, n1, n2, n3, n4, n5, n6, l⟩, a, k, rfl, ⟨hr, hk⟩, in32_wf w6, in64_wf w0, in64_wf w1, in64_wf w2, in64_wf w3, in64_wf w4, in64_wf w5, hl⟩

/-- An array of numbers. -/
theorem open_nums {t : TypeId} {n : Nat} (ht : Tryd.prog.underlying t = some (.array n 3)) (hC : Tryd.prog.cellsOf t = n) (hv : Value.okWide Tryd.prog w r b0 t v) (h : DataW.Trod enc Tryd.prog w base (fun _ => true) held t v d p) :
    ∃ l : List Int, l.length = n ∧ v = .agg (l.map fun x => Value.int .i64 x).toArray ∧ ∀ x ∈ l, In64 x := by
  have hs : ∃ cs, v = .agg cs ∧ cs.size = Tryd.prog.cellsOf t := by
    unfold Value.okWide at hv
    rw [ht] at hv
    obtain ⟨cs, h1, h2, _⟩ := hv
    exact ⟨cs, h1, h2⟩
  obtain ⟨cs, rfl, hsz⟩ := hs
  obtain ⟨fuel, hf⟩ := h
  obtain ⟨xs, m, _, _, _, hlen, hx⟩ := DataW.trod_array ht hf
  have c3 : Tryd.prog.cellsOf 3 = 1 := by kernel_rfl
  rw [hC] at hsz
  obtain ⟨l⟩ := cs
  have hl : l.length = n := by simpa using hsz
  have key : ∀ i, i < n → ∃ z, l[i]? = some (Value.int .i64 z) ∧ In64 z := by
    intro i hi
    have g := hx i hi
    rw [c3, Nat.mul_one] at g
    rw [List.getElem?_eq_getElem (by omega)] at g
    obtain ⟨z, e, _, wz⟩ := DataW.trod_int Tryd.underlying3 g
    refine ⟨z, ?_, in64_wf wz⟩
    have := congrArg (·[0]?) e
    simpa [Value.cells, List.getElem?_take, List.getElem?_drop] using this
  clear hx hf hv
  have all : ∀ (l : List Value), (∀ i, i < l.length → ∃ z, l[i]? = some (Value.int .i64 z) ∧ In64 z) → ∃ zs : List Int, zs.length = l.length ∧ l = zs.map (fun x => Value.int .i64 x) ∧ ∀ x ∈ zs, In64 x := by
    intro l
    induction l with
    | nil => exact fun _ => ⟨[], rfl, rfl, fun x hx => by simp at hx⟩
    | cons c r ih =>
      intro hk
      obtain ⟨z, hz, hw⟩ := hk 0 (by simp)
      obtain ⟨zs, h1, h2, h3⟩ := ih fun i hi => by simpa using hk (i + 1) (by simp; omega)
      simp at hz
      subst hz
      refine ⟨z :: zs, by simp [h1], by simp [← h2], fun x hx => ?_⟩
      rcases List.mem_cons.1 hx with rfl | hx
      · exact hw
      · exact h3 x hx
  obtain ⟨zs, h1, h2, h3⟩ := all l (fun i hi => key i (by omega))
  exact ⟨zs, by omega, by rw [h2], h3⟩
theorem open_nums2 {t : TypeId} (ht : Tryd.prog.underlying t = some (.array 2 3)) (hC : Tryd.prog.cellsOf t = 2) (hv : Value.okWide Tryd.prog w r b0 t v) (h : DataW.Trod enc Tryd.prog w base (fun _ => true) held t v d p) :
    ∃ x0 x1 : Int, v = .agg #[.int .i64 x0, .int .i64 x1] ∧ In64 x0 ∧ In64 x1 := by
  obtain ⟨l, hl, rfl, hw⟩ := open_nums ht hC hv h
  match l, hl with
  | [x0, x1], _ => exact ⟨x0, x1, rfl, hw _ (by simp), hw _ (by simp)⟩
theorem open_nums3 {t : TypeId} (ht : Tryd.prog.underlying t = some (.array 3 3)) (hC : Tryd.prog.cellsOf t = 3) (hv : Value.okWide Tryd.prog w r b0 t v) (h : DataW.Trod enc Tryd.prog w base (fun _ => true) held t v d p) :
    ∃ x0 x1 x2 : Int, v = .agg #[.int .i64 x0, .int .i64 x1, .int .i64 x2] ∧ In64 x0 ∧ In64 x1 ∧ In64 x2 := by
  obtain ⟨l, hl, rfl, hw⟩ := open_nums ht hC hv h
  match l, hl with
  | [x0, x1, x2], _ => exact ⟨x0, x1, x2, rfl, hw _ (by simp), hw _ (by simp), hw _ (by simp)⟩
theorem open_nums4 {t : TypeId} (ht : Tryd.prog.underlying t = some (.array 4 3)) (hC : Tryd.prog.cellsOf t = 4) (hv : Value.okWide Tryd.prog w r b0 t v) (h : DataW.Trod enc Tryd.prog w base (fun _ => true) held t v d p) :
    ∃ x0 x1 x2 x3 : Int, v = .agg #[.int .i64 x0, .int .i64 x1, .int .i64 x2, .int .i64 x3] ∧ In64 x0 ∧ In64 x1 ∧ In64 x2 ∧ In64 x3 := by
  obtain ⟨l, hl, rfl, hw⟩ := open_nums ht hC hv h
  match l, hl with
  | [x0, x1, x2, x3], _ => exact ⟨x0, x1, x2, x3, rfl, hw _ (by simp), hw _ (by simp), hw _ (by simp), hw _ (by simp)⟩
end
end Go.Proofs.YtmoplcchiadlpaaDoor.Jc
end
section
set_option linter.unusedVariables false
set_option linter.unusedSimpArgs false
namespace Go.Proofs.YtmoplcchiadlpaaDoor.Jc
open Go Go.RowKit Go.ChangeMaps Go.Proofs.YtmoplcchiadlpaaDoorW.PrintWords

/-- The number of bytes, the highest first. -/
def beGo : Int → List UInt8 → Int
  | n, [] => n
  | n, b :: r => beGo (256 * n + (b.toNat : Int)) r
def beNum (l : List UInt8) : Int := beGo 0 l
theorem beGo_append : ∀ (l r : List UInt8) (n : Int), beGo n (l ++ r) = beGo (beGo n l) r
  | [], r, n => rfl
  | x :: l, r, n => beGo_append l r _
theorem beNum_snoc (l : List UInt8) (b : UInt8) : beNum (l ++ [b]) = 256 * beNum l + (b.toNat : Int) := beGo_append l [b] 0
theorem beNum_range : ∀ (l : List UInt8), 0 ≤ beNum l ∧ beNum l < 256 ^ l.length := by
  have h : ∀ (l : List UInt8) (n : Int), 0 ≤ n → 0 ≤ beGo n l ∧ beGo n l < (n + 1) * 256 ^ l.length := by
    intro l
    induction l with
    | nil => intro n hn; simp [beGo]; omega
    | cons b r ih =>
      intro n hn
      have hb : (b.toNat : Int) < 256 := by have := b.toNat_lt; omega
      have h2 := ih (256 * n + (b.toNat : Int)) (by omega)
      refine ⟨h2.1, Int.lt_of_lt_of_le h2.2 ?_⟩
      rw [List.length_cons, Int.pow_succ, Int.mul_comm (256 ^ r.length) 256, ← Int.mul_assoc]
      exact Int.mul_le_mul_of_nonneg_right (by omega) (Int.le_of_lt (Int.pow_pos (by decide)))
  intro l
  have := h l 0 (Int.le_refl 0)
  simpa [beNum] using this

theorem i64_or_nat (a b : Nat) (ha : a < 9223372036854775808) (hb : b < 9223372036854775808) : bits .or .i64 (a : Int) (b : Int) = ((a ||| b : Nat) : Int) := by
  have hx : a ||| b < 2 ^ 63 := Nat.or_lt_two_pow (by omega) (by omega)
  show IntKind.i64.wrap ((BitVec.ofInt 64 (a : Int) ||| BitVec.ofInt 64 (b : Int)).toNat : Int) = _
  rw [BitVec.toNat_or, ofInt_u64 a (by omega), ofInt_u64 b (by omega), IntKind.wrap_i64]
  omega
theorem i64_and15 (n : Int) : bits .and .i64 n 15 = n % 16 := by
  have h15 : (BitVec.ofInt 64 15).toNat = 2 ^ 4 - 1 := by decide
  have key : (BitVec.ofInt 64 n &&& BitVec.ofInt 64 15).toNat = (n % ((2 ^ 64 : Nat) : Int)).toNat % 2 ^ 4 := by
    rw [BitVec.toNat_and, BitVec.toNat_ofInt, h15, Nat.and_two_pow_sub_one_eq_mod]
  show IntKind.i64.wrap ((BitVec.ofInt 64 n &&& BitVec.ofInt 64 15).toNat : Nat) = n % 16
  rw [key, IntKind.wrap_i64]
  omega
theorem pow_small (L : Nat) (h : L ≤ 3) : (256 : Int) ^ L ≤ 16777216 := by
  have : L = 0 ∨ L = 1 ∨ L = 2 ∨ L = 3 := by omega
  rcases this with rfl | rfl | rfl | rfl <;> decide
theorem or_byte (a b : Int) (ha : 0 ≤ a) (ha2 : a < 16777216) (hb : 0 ≤ b) (hb2 : b < 256) : bits .or .i64 (wrap64 (a * 256)) (wrap64 b) = 256 * a + b := by
  have e1 : wrap64 (a * 256) = a * 256 := by unfold wrap64; omega
  have e2 : wrap64 b = b := by unfold wrap64; omega
  rw [e1, e2]
  obtain ⟨x, rfl⟩ : ∃ x : Nat, a = x := ⟨a.toNat, by omega⟩
  obtain ⟨y, rfl⟩ : ∃ y : Nat, b = y := ⟨b.toNat, by omega⟩
  have h : 2 ^ 8 * x + y = 2 ^ 8 * x ||| y := Nat.two_pow_add_eq_or_of_lt (by omega) x
  rw [show ((x : Int) * 256) = ((2 ^ 8 * x : Nat) : Int) by omega, i64_or_nat _ _ (by omega) (by omega), ← h]
  omega
set_option maxRecDepth 100000 in
set_option maxHeartbeats 1000000 in
theorem take_no (k : Nat) (hk : k ≤ 4) (s : List UInt8) (at0 : Nat) (p q : Nat) (w : World) (hs : w.cell? ⟨p, 0, none⟩ = some (.string (bs s))) (ha : w.cell? ⟨q, 0, none⟩ = some (.int .i64 at0)) (hle : at0 ≤ s.length) (hlen : s.length ≤ 1000000000) (hno : s.length < at0 + k) :
    Calls Tryd.prog 59 #[.int .i64 k, .pointer (some ⟨p, 0, none⟩), .pointer (some ⟨q, 0, none⟩)] w fun e w' => e = .panicked [{ v := trouble 62, recovered := false }] ∧ w = w' := by
  have hsz : (bs s).size = s.length := bs_size _
  have hw : IntKind.i64.wrap ((s.length : Int) - at0) = s.length - at0 := wrap_i64 (by omega) (by omega)
  have hd : decide ((k : Int) ≤ (s.length : Int) - at0) = false := by simp; omega
  go_enter Tryd.func59, Tryd.ntmps59
  go_wp2_with fail
  refine (must_no 62 _).mono ?_
  rintro e w2 ⟨rfl, rfl⟩
  go_wp2_with fail
  exact ⟨rfl, rfl, rfl⟩

set_option maxRecDepth 100000 in
set_option maxHeartbeats 1000000 in
theorem take_ok (k : Nat) (hk : k ≤ 4) (s : List UInt8) (at0 : Nat) (p q : Nat) (hpq : p ≠ q) (w : World) (hs : w.cell? ⟨p, 0, none⟩ = some (.string (bs s))) (ha : w.heap[q]? = some (.cells #[.int .i64 at0] 3 (0, 0))) (hlen : s.length ≤ 1000000000) (hok : at0 + k ≤ s.length) :
    Calls Tryd.prog 59 #[.int .i64 k, .pointer (some ⟨p, 0, none⟩), .pointer (some ⟨q, 0, none⟩)] w fun e w' => e = .returned (.int .i64 (beNum ((s.drop at0).take k))) ∧ w.grownBy w' (some q) ∧ w'.heap[q]? = some (.cells #[.int .i64 ((at0 + k : Nat) : Int)] 3 (0, 0)) := by
  have hsz : (bs s).size = s.length := bs_size _
  have hw : IntKind.i64.wrap ((s.length : Int) - at0) = s.length - at0 := wrap_i64 (by omega) (by omega)
  have hd : decide ((k : Int) ≤ (s.length : Int) - at0) = true := by simp; omega
  have ha0 : w.cell? ⟨q, 0, none⟩ = some (.int .i64 at0) := (cell_blk ha 0).trans rfl
  have HA := Lib.hid ha
  have HS := Lib.hid hs
  have hpl := World.block_lt_of_cell? w ⟨p, 0, none⟩ hs
  clear ha
  go_enter Tryd.func59, Tryd.ntmps59
  go_wp2_with fail
  refine (must_ok 62 _).mono ?_
  rintro e w2 ⟨rfl, rfl⟩
  go_wp2_with fail
  go_loopw [5, 14] (fun n i wr => ∃ j : Nat, i = .int .i64 (j : Int) ∧ j ≤ k ∧ n = .int .i64 (beNum ((s.drop at0).take j)) ∧ Aside0 (wr.heap[q]? = some (.cells #[.int .i64 ((at0 + j : Nat) : Int)] 3 (0, 0))) ∧ Aside0 (w.grownBy wr (some q))) (fun _ i _ => k - (intOf i).toNat)
  case atStart => exact ⟨0, rfl, by omega, rfl, ⟨HA.out⟩, ⟨World.grownBy.refl _ _⟩⟩
  case round =>
    clear hs ha0 hd hw
    obtain ⟨j, rfl, hj, rfl, HQ, HG⟩ := hrel
    by_cases hlt : j < k
    · have hs1 : wr.cell? ⟨p, 0, none⟩ = some (.string (bs s)) := by
        rw [← HS.out]
        exact World.cell?_of_block (HG.out.block p hpl (by simpa using hpq))
      have ha1 : wr.cell? ⟨q, 0, none⟩ = some (.int .i64 ((at0 + j : Nat) : Int)) := (cell_blk HQ.out 0).trans rfl
      have z1 : wr.frozen? ⟨q, 0, none⟩ = false := froz_blk HQ.out 0
      go_wp2_with fail
      go_roundw
      case rel =>
        have hd : (s.drop at0).take (j + 1) = (s.drop at0).take j ++ [(bs s)[at0 + j]'(by rw [hsz]; omega)] := by
          rw [List.take_succ_eq_append_getElem (by rw [List.length_drop]; omega), List.getElem_drop]
          rfl
        have hr := beNum_range ((s.drop at0).take j)
        have hl : ((s.drop at0).take j).length ≤ 3 := by rw [List.length_take]; omega
        have hp := pow_small _ hl
        have hb := ((bs s)[at0 + j]'(by rw [hsz]; omega)).toNat_lt
        refine ⟨j + 1, by go_num, by omega, ?_, ⟨?_⟩, ⟨grown_set HG.out 0 _⟩⟩
        · rw [hd, beNum_snoc, or_byte _ _ hr.1 (by omega) (by omega) (by omega)]
        · rw [set_blk1 HQ.out]
          congr 5
      case measure => simp [intOf]; omega
    · obtain rfl : j = k := by omega
      go_wp2_with fail
      go_ret
      exact ⟨rfl, HG.out, HQ.out⟩
end Go.Proofs.YtmoplcchiadlpaaDoor.Jc
end
section
set_option linter.unusedVariables false
set_option linter.unusedSimpArgs false
namespace Go.Proofs.YtmoplcchiadlpaaDoor.Jc
open Go Go.RowKit Go.ChangeMaps Go.Proofs.YtmoplcchiadlpaaDoorW.PrintWords

def sgnV (x : UInt8) (far : Bool) (n : Int) : Int := if (widthF x far).2.1 < 0 ∧ (2 : Int) ^ (8 * (widthF x far).1 - 1) ≤ n then n - (2 : Int) ^ (8 * (widthF x far).1) else n
theorem width_forms (x : UInt8) (far : Bool) : ((widthF x far).1 = 2 ∧ (widthF x far).2.1 = -32768) ∨ ((widthF x far).1 = 4 ∧ (widthF x far).2.1 = -2147483648) ∨ ((widthF x far).1 = 1 ∧ (widthF x far).2.1 = -128) ∨ ((widthF x far).1 = 1 ∧ (widthF x far).2.1 = 0) ∨ ((widthF x far).1 = 2 ∧ (widthF x far).2.1 = 0) ∨ ((widthF x far).1 = 3 ∧ (widthF x far).2.1 = -8388608) := by
  unfold widthF
  repeat' split
  all_goals simp
theorem callTake (cap : Array Value) (w : World) : (callFunc 59 cap).run Tryd.prog w = .ok (.enter 59 cap) w := by
  kernel_rfl
theorem callSigned (cap : Array Value) (w : World) : (callFunc 60 cap).run Tryd.prog w = .ok (.enter 60 cap) w := by
  kernel_rfl
def takeFn (p q : Nat) : Value := .func (.func 59) #[] #[.pointer (some ⟨p, 0, none⟩), .pointer (some ⟨q, 0, none⟩)]

set_option maxRecDepth 100000 in
set_option maxHeartbeats 2000000 in
theorem signed_no (x : UInt8) (far : Bool) (s : List UInt8) (at0 : Nat) (p q r : Nat) (w : World) (hs : w.cell? ⟨p, 0, none⟩ = some (.string (bs s))) (ha : w.cell? ⟨q, 0, none⟩ = some (.int .i64 at0)) (ht : w.cell? ⟨r, 0, none⟩ = some (takeFn p q)) (hle : at0 ≤ s.length) (hlen : s.length ≤ 1000000000) (hno : s.length < at0 + (widthF x far).1) :
    Calls Tryd.prog 60 #[.int .u8 x.toNat, .bool far, .pointer (some ⟨r, 0, none⟩)] w fun e w' => e = .panicked [{ v := trouble 62, recovered := false }] ∧ w = w' := by
  have hcf := callTake
  have HW := Lib.hid (fun W => width_any x far W)
  have HT := Lib.hid (take_no _ (width_le x far) s at0 p q w hs ha hle hlen hno)
  clear hs ha hno
  unfold takeFn at ht
  generalize widthF x far = wd at HW HT
  obtain ⟨k, lo, hi⟩ := wd
  go_enter Tryd.func60, Tryd.ntmps60
  go_wp2_with fail
  refine (HW.out _).mono ?_
  rintro e w2 ⟨rfl, rfl⟩
  go_wp2_with fail
  refine HT.out.mono ?_
  rintro e w2 ⟨rfl, rfl⟩
  go_wp2_with fail
  exact ⟨rfl, rfl, rfl⟩

set_option maxRecDepth 100000 in
set_option maxHeartbeats 4000000 in
theorem signed_ok (x : UInt8) (far : Bool) (s : List UInt8) (at0 : Nat) (p q r : Nat) (hpq : p ≠ q) (w : World) (hs : w.cell? ⟨p, 0, none⟩ = some (.string (bs s))) (ha : w.heap[q]? = some (.cells #[.int .i64 at0] 3 (0, 0))) (ht : w.cell? ⟨r, 0, none⟩ = some (takeFn p q)) (hlen : s.length ≤ 1000000000) (hok : at0 + (widthF x far).1 ≤ s.length) :
    Calls Tryd.prog 60 #[.int .u8 x.toNat, .bool far, .pointer (some ⟨r, 0, none⟩)] w fun e w' => e = .returned (.int .i64 (sgnV x far (beNum ((s.drop at0).take (widthF x far).1)))) ∧ w.grownBy w' (some q) ∧ w'.heap[q]? = some (.cells #[.int .i64 ((at0 + (widthF x far).1 : Nat) : Int)] 3 (0, 0)) := by
  have hcf := callTake
  have HW := Lib.hid (fun W => width_any x far W)
  have HT := Lib.hid (take_ok _ (width_le x far) s at0 p q hpq w hs ha hlen hok)
  have hr := beNum_range ((s.drop at0).take (widthF x far).1)
  have hl : ((s.drop at0).take (widthF x far).1).length = (widthF x far).1 := by rw [List.length_take, List.length_drop]; omega
  rw [hl] at hr
  unfold sgnV
  clear hs ha hok hl
  unfold takeFn at ht
  have hforms := width_forms x far
  generalize beNum ((s.drop at0).take (widthF x far).1) = n at HT hr ⊢
  generalize widthF x far = wd at HW HT hforms hr ⊢
  obtain ⟨k, lo, hi⟩ := wd
  dsimp only at *
  rcases hforms with ⟨rfl, rfl⟩ | ⟨rfl, rfl⟩ | ⟨rfl, rfl⟩ | ⟨rfl, rfl⟩ | ⟨rfl, rfl⟩ | ⟨rfl, rfl⟩
  all_goals
    simp at hr
    go_enter Tryd.func60, Tryd.ntmps60
    go_wp2_with fail
    refine (HW.out _).mono ?_
    rintro e w2 ⟨rfl, rfl⟩
    go_wp2_with fail
    refine HT.out.mono ?_
    rintro e w2 ⟨rfl, hg, hq⟩
    have HG := Lib.hid hg
    have HQ := Lib.hid hq
    clear hg hq
    go_wp2_with fail
    all_goals
      go_ret
      refine ⟨?_, HG.out, HQ.out⟩
      simp
      try omega
end Go.Proofs.YtmoplcchiadlpaaDoor.Jc
end
section
set_option linter.unusedVariables false
set_option linter.unusedSimpArgs false
namespace Go.Proofs.YtmoplcchiadlpaaDoor.Jc
open Go Go.RowKit Go.ChangeMaps Go.Proofs.YtmoplcchiadlpaaDoorW.PrintWords

def setReg (m : M) (x : UInt8) (v : Int) : M := if x = 68 then { m with d := v } else if x = 65 then { m with a := v } else if x = 66 then { m with b := v } else { m with c := v }
def byteI (s : List UInt8) (k : Nat) : Int := ((s.getD k 0).toNat : Int)
/-- Registers, two a byte. -/
def getRegs (s : List UInt8) : List UInt8 → M → Nat → Except Int (M × Nat)
  | [], m, p => .ok (m, p)
  | [x], m, p => if p < s.length then .ok (setReg m x (byteI s p / 16), p + 1) else .error 62
  | x :: y :: r, m, p => if p < s.length then getRegs s r (setReg (setReg m x (byteI s p / 16)) y (byteI s p % 16)) (p + 1) else .error 62
def callArgs (n : Nat) : List Int := (List.range n).map fun k : Nat => (k : Int)
def tableArgs (s : List UInt8) (p : Nat) (far : Bool) (n : Nat) : List Int := (List.range n).map fun k : Nat => sgnV 116 far (beNum ((s.drop (p + 1 + 3 * k)).take 3))
/-- The number of an instruction whose registers are read. -/
def getNum (s : List UInt8) (m : M) (p : Nat) (far : Bool) : Except Int (M × Nat) :=
  if numF m.op = 0 then .ok (m, p)
  else if numF m.op = 110 then
    (if s.length < p + 1 then .error 62 else if s.length < p + 1 + 4 then .error 62
     else .ok ({ m with imm := IntKind.i32.wrap (beNum ((s.drop (p + 1)).take 4)), args := callArgs (min (byteI s p).toNat 5) }, p + 1 + 4))
  else if numF m.op = 101 then (if s.length < p + 1 then .error 62 else .ok ({ m with e := byteI s p }, p + 1))
  else if numF m.op = 116 then
    (if s.length < p + 1 then .error 62 else if ¬ (2 ≤ byteI s p ∧ byteI s p ≤ 65) then .error 60
     else if s.length < p + 1 + 3 * (byteI s p).toNat then .error 62
     else .ok ({ m with args := tableArgs s p far (byteI s p).toNat }, p + 1 + 3 * (byteI s p).toNat))
  else if numF m.op = 119 then (if s.length < p + 4 then .error 62 else .ok ({ m with imm := IntKind.i32.wrap (beNum ((s.drop p).take 4)) }, p + 4))
  else if s.length < p + (widthF (numF m.op) far).1 then .error 62
  else .ok ({ m with imm := IntKind.i32.wrap (sgnV (numF m.op) far (beNum ((s.drop p).take (widthF (numF m.op) far).1))) }, p + (widthF (numF m.op) far).1)
def farB (s : List UInt8) : Bool := decide (128 ≤ byteI s 0)
def opB (s : List UInt8) : Int := byteI s 0 % 128
def startM (s : List UInt8) : M := ⟨opB s, 0, if farB s then 1 else 0, 0, 0, 0, 0, []⟩
def fixE (m : M) : M := if m.op = 29 then { m with e := 1 } else m
def getRaw (s : List UInt8) : Except Int (M × Nat) :=
  if s.length = 0 then .error 62
  else if (known (opB s) && (!farB s || decide (numF (opB s) = 98))) = false then .error 60
  else match getRegs s (regsF (opB s)) (startM s) 1 with
    | .ok q => (match getNum s q.1 q.2 (farB s) with
      | .ok r => .ok (fixE r.1, r.2)
      | .error k => .error k)
    | .error k => .error k
/-- P18.2. -/
def getM (s : List UInt8) : Except Int (M × Nat) :=
  match getRaw s with
  | .ok q => (match put q.1 with
    | .ok t => if t = s.take q.2 then .ok q else .error 60
    | .error _ => .error 60)
  | .error k => .error k

theorem byteI_range (s : List UInt8) (k : Nat) : 0 ≤ byteI s k ∧ byteI s k < 256 := by
  unfold byteI
  have := (s.getD k 0).toNat_lt
  omega
theorem beNum_one (s : List UInt8) (p : Nat) (h : p < s.length) : beNum ((s.drop p).take 1) = byteI s p := by
  have e : (s.drop p).take 1 = [s.getD p 0] := by
    rw [List.take_one, List.head?_drop, List.getD_eq_getElem?_getD, List.getElem?_eq_getElem h]
    rfl
  rw [e]
  unfold byteI beNum
  simp [beGo]

structure Kept2 (w w' : World) (b1 b2 : Nat) : Prop where
  os : w'.os = w.os
  tape : w'.tape = w.tape
  output : w'.output = w.output
  size : w.heap.size ≤ w'.heap.size
  block : ∀ k, k < w.heap.size → k ≠ b1 → k ≠ b2 → w'.heap[k]? = w.heap[k]?
theorem Kept2.refl (w : World) (b1 b2 : Nat) : Kept2 w w b1 b2 := ⟨rfl, rfl, rfl, Nat.le_refl _, fun _ _ _ _ => rfl⟩
theorem Kept2.grown {w w1 w2 : World} {b1 b2 b : Nat} (h : Kept2 w w1 b1 b2) (g : w1.grownBy w2 (some b)) (hb : b = b1 ∨ b = b2) : Kept2 w w2 b1 b2 :=
  ⟨g.os.trans h.os, g.tape.trans h.tape, g.output.trans h.output, Nat.le_trans h.size g.size, fun k hk h1 h2 => (g.block k (Nat.lt_of_lt_of_le hk h.size) (by simp; omega)).trans (h.block k hk h1 h2)⟩
theorem Kept2.below {w w1 w2 : World} {b1 b2 : Nat} (h : Kept2 w w1 b1 b2) (g : Below w.heap.size w1 w2) : Kept2 w w2 b1 b2 :=
  ⟨g.os.trans h.os, g.tape.trans h.tape, g.output.trans h.output, Nat.le_trans h.size g.size, fun k hk h1 h2 => (g.block k hk).trans (h.block k hk h1 h2)⟩
theorem Kept2.below1 {w w1 w2 : World} {b1 b2 : Nat} (h : Kept2 w w1 b1 b2) (g : Below w1.heap.size w1 w2) : Kept2 w w2 b1 b2 := h.below (g.mono h.size)
theorem Kept2.set {w w1 : World} {b1 b2 b : Nat} (h : Kept2 w w1 b1 b2) (hb : b = b1 ∨ b = b2) (i : Nat) (v : Value) : Kept2 w (w1.setCell ⟨b, i, none⟩ v) b1 b2 :=
  h.grown (grown_set (World.grownBy.refl w1 (some b)) i v) hb
theorem Kept2.alloc {w w1 : World} {b1 b2 : Nat} (h : Kept2 w w1 b1 b2) (o : Obj) : Kept2 w (w1.alloc o) b1 b2 := h.below1 (below_alloc (Below.refl _ _) o)
theorem Kept2.at {w w1 : World} {b1 b2 b : Nat} {o : Obj} (h : Kept2 w w1 b1 b2) (hb : w.heap[b]? = some o) (h1 : b ≠ b1) (h2 : b ≠ b2) : w1.heap[b]? = some o := (h.block b (blk_lt' hb) h1 h2).trans hb

theorem set_cells {w : World} {b : Nat} {cs : Array Value} {t : TypeId} (h : w.heap[b]? = some (.cells cs t (0, 0))) (i : Nat) (v : Value) : (w.setCell ⟨b, i, none⟩ v).heap[b]? = some (.cells (cs.setIfInBounds i v) t (0, 0)) := by
  simp [World.setCell, Array.getElem?_modify, h]
end Go.Proofs.YtmoplcchiadlpaaDoor.Jc
end
section
set_option linter.unusedVariables false
set_option linter.unusedSimpArgs false
namespace Go.Proofs.YtmoplcchiadlpaaDoor.Jc
open Go Go.RowKit Go.ChangeMaps Go.Proofs.YtmoplcchiadlpaaDoorW.PrintWords

theorem reg_off2 (x : UInt8) (h : isReg x = true) : ∃ off : Int, (((x.toNat : Int) = 68 ∧ off = 1) ∨ ((x.toNat : Int) = 65 ∧ off = 3) ∨ ((x.toNat : Int) = 66 ∧ off = 4) ∨ ((x.toNat : Int) = 67 ∧ off = 5)) ∧
    ∀ (m : M) (a : Option Addr) (c : Nat), (cellsM m a c)[off.toNat]? = some (.int .i64 (regVal m x)) ∧ ∀ v, (cellsM m a c).setIfInBounds off.toNat (.int .i64 v) = cellsM (setReg m x v) a c := by
  unfold isReg at h
  simp only [Bool.or_eq_true, beq_iff_eq] at h
  rcases h with ((h | h) | h) | h
  · exact ⟨1, .inl ⟨by rw [h]; rfl, rfl⟩, fun m a c => ⟨by rw [h]; rfl, fun v => by rw [h]; rfl⟩⟩
  · exact ⟨3, .inr (.inl ⟨by rw [h]; rfl, rfl⟩), fun m a c => ⟨by rw [h]; rfl, fun v => by rw [h]; rfl⟩⟩
  · exact ⟨4, .inr (.inr (.inl ⟨by rw [h]; rfl, rfl⟩)), fun m a c => ⟨by rw [h]; rfl, fun v => by rw [h]; rfl⟩⟩
  · exact ⟨5, .inr (.inr (.inr ⟨by rw [h]; rfl, rfl⟩)), fun m a c => ⟨by rw [h]; rfl, fun v => by rw [h]; rfl⟩⟩
theorem setReg_args (m : M) (x : UInt8) (v : Int) : (setReg m x v).args = m.args := by
  unfold setReg
  repeat' split
  all_goals rfl
theorem setReg_op (m : M) (x : UInt8) (v : Int) : (setReg m x v).op = m.op := by
  unfold setReg
  repeat' split
  all_goals rfl
theorem drop_two (l : List UInt8) (k : Nat) (h : k + 1 < l.length) : l.drop k = l[k] :: l[k + 1] :: l.drop (k + 2) := by
  rw [List.drop_eq_getElem_cons (by omega), List.drop_eq_getElem_cons h]
theorem drop_last (l : List UInt8) (k : Nat) (h : k + 1 = l.length) : l.drop k = [l[k]] := by
  rw [List.drop_eq_getElem_cons (by omega), List.drop_of_length_le (by omega)]
theorem getM_regs {s : List UInt8} {k : Int} (h0 : ¬ s.length = 0) (h1 : (known (opB s) && (!farB s || decide (numF (opB s) = 98))) = true) (h2 : getRegs s (regsF (opB s)) (startM s) 1 = .error k) : getM s = .error k := by
  unfold getM getRaw
  rw [if_neg h0, if_neg (by rw [h1]; simp), h2]
theorem getM_num {s : List UInt8} {k : Int} {m : M} {p : Nat} (h0 : ¬ s.length = 0) (h1 : (known (opB s) && (!farB s || decide (numF (opB s) = 98))) = true) (h2 : getRegs s (regsF (opB s)) (startM s) 1 = .ok (m, p)) (h3 : getNum s m p (farB s) = .error k) : getM s = .error k := by
  unfold getM getRaw
  rw [if_neg h0, if_neg (by rw [h1]; simp), h2]
  simp only [h3]
theorem getM_raw {s : List UInt8} {m m2 : M} {p p2 : Nat} (h0 : ¬ s.length = 0) (h1 : (known (opB s) && (!farB s || decide (numF (opB s) = 98))) = true) (h2 : getRegs s (regsF (opB s)) (startM s) 1 = .ok (m, p)) (h3 : getNum s m p (farB s) = .ok (m2, p2)) :
    getM s = match put (fixE m2) with
      | .ok t => if t = s.take p2 then .ok (fixE m2, p2) else .error 60
      | .error _ => .error 60 := by
  unfold getM getRaw
  rw [if_neg h0, if_neg (by rw [h1]; simp), h2]
  simp only [h3]
  all_goals (cases put (fixE m2) <;> rfl)
theorem setReg_in (m : M) (h : InR m) (x : UInt8) (v : Int) (hv : In64 v) : InR (setReg m x v) := by
  unfold setReg
  repeat' split
  · exact ⟨h.imm, h.op, hv, h.e, h.a, h.b, h.c, h.args, h.few⟩
  · exact ⟨h.imm, h.op, h.d, h.e, hv, h.b, h.c, h.args, h.few⟩
  · exact ⟨h.imm, h.op, h.d, h.e, h.a, hv, h.c, h.args, h.few⟩
  · exact ⟨h.imm, h.op, h.d, h.e, h.a, h.b, hv, h.args, h.few⟩
theorem startM_in (s : List UInt8) : InR (startM s) := by
  have hb := byteI_range s 0
  have z : In64 0 := ⟨by decide, by decide⟩
  refine ⟨⟨show (-2147483648 : Int) ≤ 0 by decide, show (0 : Int) ≤ 2147483647 by decide⟩, ⟨?_, ?_⟩, z, ?_, z, z, z, fun x hx => absurd hx (by simp [startM]), by simp [startM]⟩
  · show -9223372036854775808 ≤ opB s
    unfold opB
    omega
  · show opB s ≤ 9223372036854775807
    unfold opB
    omega
  · show In64 (if farB s = true then 1 else 0)
    split
    · exact ⟨by decide, by decide⟩
    · exact z
theorem i32_range (n : Int) : -2147483648 ≤ IntKind.i32.wrap n ∧ IntKind.i32.wrap n ≤ 2147483647 := by
  simp [IntKind.wrap, IntKind.bits, IntKind.signed]
  omega
theorem be4_range (s : List UInt8) (p : Nat) : 0 ≤ beNum ((s.drop p).take 4) ∧ beNum ((s.drop p).take 4) < 4294967296 := by
  have h := beNum_range ((s.drop p).take 4)
  have hl : ((s.drop p).take 4).length ≤ 4 := by rw [List.length_take]; omega
  generalize ((s.drop p).take 4).length = L at h hl
  have hL : L = 0 ∨ L = 1 ∨ L = 2 ∨ L = 3 ∨ L = 4 := by omega
  rcases hL with rfl | rfl | rfl | rfl | rfl <;> (simp at h; omega)
theorem wrap32_is (n : Int) : wrap32 n = IntKind.i32.wrap n := by
  simp [IntKind.wrap, IntKind.bits, IntKind.signed, wrap32]
  omega
theorem args_none {m : M} (h : m.args = []) (W : World) : ArgsIn W m none 0 := ⟨by rw [h]; exact ReadsInt.nil W .i64, by rw [h]; exact Nat.le_refl 0⟩
end Go.Proofs.YtmoplcchiadlpaaDoor.Jc
end
section
set_option linter.unusedVariables false
set_option linter.unusedSimpArgs false
namespace Go.Proofs.YtmoplcchiadlpaaDoor.Jc
open Go Go.RowKit Go.ChangeMaps Go.Proofs.YtmoplcchiadlpaaDoorW.PrintWords

def cellsV (m : M) (v : Value) : Array Value := #[.int .i64 m.op, .int .i64 m.d, .int .i64 m.e, .int .i64 m.a, .int .i64 m.b, .int .i64 m.c, .int .i32 m.imm, v]
theorem cellsV_set (m : M) (u v : Value) : (cellsV m u).setIfInBounds 7 v = cellsV m v := rfl
theorem info_int : (Tryd.prog.info? 3).map (fun i => (i.zero, i.size, i.bytes)) = some (some (.int .i64 0), 1, 8) := by kernel_rfl

/-- A field's row. -/
structure RowV (w : World) (B : Nat) (v : Value) (xs : List Int) : Prop where
  empty : xs = [] → v = .slice none 0 0
  own : w.ownsRow B 3 1 v (nums .i64 xs).length (nums .i64 xs)
theorem RowV.nil (w : World) (B : Nat) : RowV w B (.slice none 0 0) [] := ⟨fun _ => rfl, own_nil w B 3 1⟩
theorem RowV.kept2 {w W : World} {B b1 b2 : Nat} {v : Value} {xs : List Int} (h : RowV w B v xs) (hk : Kept2 w W b1 b2) (h1 : b1 < B) (h2 : b2 < B) : RowV W B v xs := by
  refine ⟨h.empty, h.own.1, ?_⟩
  rcases h.own.2 with h0 | ⟨g, cap, cur, hv, hB, hg, hr⟩
  · exact .inl h0
  · exact .inr ⟨g, cap, cur, hv, hB, (hk.block g (blk_lt' hg) (by omega) (by omega)).trans hg, hr⟩
theorem RowV.args {w : World} {B : Nat} {v : Value} {xs : List Int} (h : RowV w B v xs) : ∃ A c, v = .slice A xs.length c ∧ ReadsInt w .i64 A xs.length xs ∧ xs.length ≤ c := by
  have hl : (nums .i64 xs).length = xs.length := by simp [nums]
  have hw := h.own
  rw [hl] at hw
  obtain ⟨A, c, rfl, hr⟩ := own_reads hw
  refine ⟨A, c, rfl, hr, ?_⟩
  rcases hw.2 with ⟨h0, h1⟩ | ⟨g, cap, cur, hv, _, _, hc, _⟩
  · omega
  · cases hv
    exact hc
theorem RowV.argsIn {w : World} {B : Nat} {m : M} {A : Option Addr} {c : Nat} (h : RowV w B (.slice A m.args.length c) m.args) : ArgsIn w m A c := by
  obtain ⟨A', c', hv, hr, hc⟩ := h.args
  cases hv
  exact ⟨hr, hc⟩

theorem RowV.fresh {w : World} {B n c : Nat} {A : Option Addr} {xs : List Int} (h : RowV w B (.slice A n c) xs) : ∀ ad, A = some ad → B ≤ ad.block := by
  intro ad ha
  subst ha
  exact own_base h.own ad.block rfl

theorem callArgs_succ (n : Nat) : callArgs (n + 1) = callArgs n ++ [(n : Int)] := by simp [callArgs, List.range_succ]
theorem callArgs_length (n : Nat) : (callArgs n).length = n := by simp [callArgs]
theorem callArgs_in (n : Nat) (h : n ≤ 5) : ∀ x ∈ callArgs n, In64 x := by
  intro x hx
  simp only [callArgs, List.mem_map, List.mem_range] at hx
  obtain ⟨k, hk, rfl⟩ := hx
  exact ⟨by omega, by omega⟩
theorem tableArgs_succ (s : List UInt8) (p : Nat) (far : Bool) (n : Nat) : tableArgs s p far (n + 1) = tableArgs s p far n ++ [sgnV 116 far (beNum ((s.drop (p + 1 + 3 * n)).take 3))] := by simp [tableArgs, List.range_succ]
theorem tableArgs_length (s : List UInt8) (p : Nat) (far : Bool) (n : Nat) : (tableArgs s p far n).length = n := by simp [tableArgs]
theorem be3_range (s : List UInt8) (p : Nat) : 0 ≤ beNum ((s.drop p).take 3) ∧ beNum ((s.drop p).take 3) < 16777216 := by
  have h := beNum_range ((s.drop p).take 3)
  have hl : ((s.drop p).take 3).length ≤ 3 := by rw [List.length_take]; omega
  generalize ((s.drop p).take 3).length = L at h hl
  have hL : L = 0 ∨ L = 1 ∨ L = 2 ∨ L = 3 := by omega
  rcases hL with rfl | rfl | rfl | rfl <;> (simp at h; omega)
theorem sgn3_range (far : Bool) (s : List UInt8) (p : Nat) : In64 (sgnV 116 far (beNum ((s.drop p).take 3))) := by
  have h := be3_range s p
  generalize beNum ((s.drop p).take 3) = n at h
  have hw : widthF 116 far = (3, -8388608, 8388607) := by unfold widthF; simp
  unfold sgnV
  rw [hw]
  split <;> (constructor <;> (try simp) <;> omega)
theorem tableArgs_in (s : List UInt8) (p : Nat) (far : Bool) (n : Nat) : ∀ x ∈ tableArgs s p far n, In64 x := by
  intro x hx
  simp only [tableArgs, List.mem_map, List.mem_range] at hx
  obtain ⟨k, hk, rfl⟩ := hx
  exact sgn3_range far s _
/-- One more number in the row. -/
theorem RowV.snoc {w : World} {B : Nat} {v : Value} {xs : List Int} {x : Int} (h : w.ownsRow B 3 1 v (nums .i64 xs ++ [Value.int .i64 x]).length (nums .i64 xs ++ [Value.int .i64 x])) : RowV w B v (xs ++ [x]) :=
  ⟨fun h0 => absurd h0 (by simp), by
    have e : nums .i64 (xs ++ [x]) = nums .i64 xs ++ [Value.int .i64 x] := by simp [nums]
    rw [e]
    exact h⟩
theorem kept2_trans {w w1 w2 : World} {b1 b2 : Nat} (h : Kept2 w w1 b1 b2) (g : Kept2 w1 w2 b1 b2) : Kept2 w w2 b1 b2 :=
  ⟨g.os.trans h.os, g.tape.trans h.tape, g.output.trans h.output, Nat.le_trans h.size g.size, fun k hk h1 h2 => (g.block k (Nat.lt_of_lt_of_le hk h.size) h1 h2).trans (h.block k hk h1 h2)⟩
theorem nums_len (k : IntKind) (xs : List Int) : (nums k xs).length = xs.length := by simp [nums]
end Go.Proofs.YtmoplcchiadlpaaDoor.Jc
end
section
namespace Go.Proofs
open Go.Shelf
def Tryd.lays169_ren : Go.Shelf.Ren := ⟨fun | 169 => 74 | n => n, fun | 70 => 99 | 9 => 9 | 0 => 0 | 72 => 101 | 37 => 43 | 127 => 116 | 3 => 3 | 5 => 5 | n => n, fun | n => n⟩
theorem Tryd.lays169 : Go.Proofs.Lays.n169 Tryd.prog Tryd.lays169_ren := {
  mixed := by kernel_rfl
  f169 := Tryd.func74.trans (congrArg some (by kernel_rfl))
  t0 := Tryd.underlying0
  a0 := Tryd.isAgg0
  z0 := Tryd.sizeOf0
  v0 := Tryd.zeroValue0
  t3 := Tryd.underlying3
  a3 := Tryd.isAgg3
  z3 := Tryd.sizeOf3
  v3 := Tryd.zeroValue3
  t9 := Tryd.underlying9
  a9 := Tryd.isAgg9
  z9 := Tryd.sizeOf9
  v9 := Tryd.zeroValue9
  t37 := Tryd.underlying43
  a37 := Tryd.isAgg43
  z37 := Tryd.sizeOf43
  v37 := Tryd.zeroValue43
  t70 := Tryd.underlying99
  a70 := Tryd.isAgg99
  z70 := Tryd.sizeOf99
  v70 := Tryd.zeroValue99
  t72 := Tryd.underlying101
  a72 := Tryd.isAgg101
  z72 := Tryd.sizeOf101
  v72 := Tryd.zeroValue101
  t127 := Tryd.underlying116
  a127 := Tryd.isAgg116
  z127 := Tryd.sizeOf116
  v127 := Tryd.zeroValue116 }
theorem Tryd.Builder_Extra_169 : Builder.Extra Tryd.prog Tryd.lays169_ren := {
  sizeBuilder := by kernel_rfl
  liesBuilder := by kernel_rfl
  t5 := Tryd.underlying5
  a5 := Tryd.isAgg5
  z5 := Tryd.sizeOf5
  v5 := Tryd.zeroValue5
  infoByte := by kernel_rfl
  cellsByte := by kernel_rfl
  sizeByte := by kernel_rfl
  neB5 := by decide }
open Go.RowKit in
/-- (*strings.Builder).String: "String returns the accumulated string.": OF A BUILDER THAT HOLDS AT LEAST ONE BYTE. ✋ THE MODEL FREEZES THOSE BYTES IN THE BUFFER (unsafe.String): a later write INTO them ends the model's run without an answer; a later append BEHIND them goes on. The statement's order of evaluation is drawn: one draw. (LAID: no walk: one application.) -/
theorem Tryd.Builder_String (B b : Nat) (l : List UInt8) (w : World) (h : Lib.IsBuilder 101 5 B b (Lib.byteCells l) w) (h0 : l ≠ []) :
    Calls Tryd.prog 74 #[.pointer (some ⟨b, 0, none⟩)] w fun e w' => e = .returned (.string ⟨l.toArray⟩) ∧ Below B w w' := Any.Builder_String Tryd.lays169 Tryd.Builder_Extra_169 B b l w h h0
open Go.RowKit in
/-- (*strings.Builder).String OF A BUILDER THAT HOLDS NO BYTE: the empty string. (Its buffer is nil, or a row of which it has taken nothing yet; where that row has NO capacity the model lays one new block for unsafe.SliceData's 'some address'.) One draw. (LAID: no walk: one application.) -/
theorem Tryd.Builder_String_empty (B b : Nat) (w : World) (h : Lib.IsBuilder 101 5 B b [] w) (hBw : B ≤ w.heap.size) :
    Calls Tryd.prog 74 #[.pointer (some ⟨b, 0, none⟩)] w fun e w' => e = .returned (.string ⟨#[]⟩) ∧ Below B w w' := Any.Builder_String_empty Tryd.lays169 Tryd.Builder_Extra_169 B b w h hBw
open Go.RowKit in
/-- (*strings.Builder).String: "String returns the accumulated string.": WHATEVER THE BUILDER HOLDS. (LAID: no walk: one application.) -/
theorem Tryd.Builder_String_any (B b : Nat) (l : List UInt8) (w : World) (h : Lib.IsBuilder 101 5 B b (Lib.byteCells l) w) (hBw : B ≤ w.heap.size) :
    Calls Tryd.prog 74 #[.pointer (some ⟨b, 0, none⟩)] w fun e w' => e = .returned (.string ⟨l.toArray⟩) ∧ Below B w w' := Any.Builder_String_any Tryd.lays169 Tryd.Builder_Extra_169 B b l w h hBw
def Tryd.lays241_ren : Go.Shelf.Ren := ⟨fun | 241 => 89 | 277 => 98 | n => n, fun | 70 => 99 | 3 => 3 | 0 => 0 | 72 => 101 | 37 => 43 | 5 => 5 | n => n, fun | n => n⟩
theorem Tryd.lays241 : Go.Proofs.Lays.n241 Tryd.prog Tryd.lays241_ren := {
  mixed := by kernel_rfl
  f241 := Tryd.func89.trans (congrArg some (by kernel_rfl))
  f277 := Tryd.func98.trans (congrArg some (by kernel_rfl))
  t0 := Tryd.underlying0
  a0 := Tryd.isAgg0
  z0 := Tryd.sizeOf0
  v0 := Tryd.zeroValue0
  t3 := Tryd.underlying3
  a3 := Tryd.isAgg3
  z3 := Tryd.sizeOf3
  v3 := Tryd.zeroValue3
  t37 := Tryd.underlying43
  a37 := Tryd.isAgg43
  z37 := Tryd.sizeOf43
  v37 := Tryd.zeroValue43
  t70 := Tryd.underlying99
  a70 := Tryd.isAgg99
  z70 := Tryd.sizeOf99
  v70 := Tryd.zeroValue99
  t72 := Tryd.underlying101
  a72 := Tryd.isAgg101
  z72 := Tryd.sizeOf101
  v72 := Tryd.zeroValue101 }
theorem Tryd.Builder_Extra_241 : Builder.Extra Tryd.prog Tryd.lays241_ren := {
  sizeBuilder := by kernel_rfl
  liesBuilder := by kernel_rfl
  t5 := Tryd.underlying5
  a5 := Tryd.isAgg5
  z5 := Tryd.sizeOf5
  v5 := Tryd.zeroValue5
  infoByte := by kernel_rfl
  cellsByte := by kernel_rfl
  sizeByte := by kernel_rfl
  neB5 := by decide }
open Go.RowKit in
/-- (*strings.Builder).grow (no doc but "grow copies the buffer to a new, larger buffer so that there are at least n bytes of capacity beyond len(b.buf)."): AT A BUILDER WITHOUT A BUFFER: a new row of whatever bytes for its buffer, none of them its own yet. Three draws. (LAID: no walk: one application.) -/
theorem Tryd.Builder_grow_fresh (B b n : Nat) (w : World) (hB : B ≤ b) (hbk : w.heap[b]? = some (.cells #[.pointer (some ⟨b, 0, none⟩), .slice none 0 0] 101 (0, 0))) (hBw : B ≤ w.heap.size) (hn : n ≤ 281474976710656) :
    Calls Tryd.prog 89 #[.pointer (some ⟨b, 0, none⟩), .int .i64 n] w fun e w' => e = .returned (.tuple #[]) ∧ (Lib.BuilderAt 101 5 B b (.pointer (some ⟨b, 0, none⟩)) [] w' ∧ Below B w w') := Any.Builder_grow_fresh Tryd.lays241 Tryd.Builder_Extra_241 B b n w hB hbk hBw hn
def Tryd.lays165_ren : Go.Shelf.Ren := ⟨fun | 165 => 72 | 240 => 88 | 241 => 89 | 276 => 97 | 277 => 98 | n => n, fun | 70 => 99 | 3 => 3 | 0 => 0 | 4 => 4 | 9 => 9 | 20 => 20 | 72 => 101 | 37 => 43 | 164 => 128 | 5 => 5 | n => n, fun | n => n⟩
theorem Tryd.lays165 : Go.Proofs.Lays.n165 Tryd.prog Tryd.lays165_ren := {
  mixed := by kernel_rfl
  f165 := Tryd.func72.trans (congrArg some (by kernel_rfl))
  f240 := Tryd.func88.trans (congrArg some (by kernel_rfl))
  f241 := Tryd.func89.trans (congrArg some (by kernel_rfl))
  f276 := Tryd.func97.trans (congrArg some (by kernel_rfl))
  f277 := Tryd.func98.trans (congrArg some (by kernel_rfl))
  t0 := Tryd.underlying0
  a0 := Tryd.isAgg0
  z0 := Tryd.sizeOf0
  v0 := Tryd.zeroValue0
  t3 := Tryd.underlying3
  a3 := Tryd.isAgg3
  z3 := Tryd.sizeOf3
  v3 := Tryd.zeroValue3
  t4 := Tryd.underlying4
  a4 := Tryd.isAgg4
  z4 := Tryd.sizeOf4
  v4 := Tryd.zeroValue4
  t9 := Tryd.underlying9
  a9 := Tryd.isAgg9
  z9 := Tryd.sizeOf9
  v9 := Tryd.zeroValue9
  t20 := Tryd.underlying20
  a20 := Tryd.isAgg20
  z20 := Tryd.sizeOf20
  v20 := Tryd.zeroValue20
  t37 := Tryd.underlying43
  a37 := Tryd.isAgg43
  z37 := Tryd.sizeOf43
  v37 := Tryd.zeroValue43
  t70 := Tryd.underlying99
  a70 := Tryd.isAgg99
  z70 := Tryd.sizeOf99
  v70 := Tryd.zeroValue99
  t72 := Tryd.underlying101
  a72 := Tryd.isAgg101
  z72 := Tryd.sizeOf101
  v72 := Tryd.zeroValue101
  t164 := Tryd.underlying128
  a164 := Tryd.isAgg128
  z164 := Tryd.sizeOf128
  v164 := Tryd.zeroValue128 }
theorem Tryd.Builder_Extra_165 : Builder.Extra Tryd.prog Tryd.lays165_ren := {
  sizeBuilder := by kernel_rfl
  liesBuilder := by kernel_rfl
  t5 := Tryd.underlying5
  a5 := Tryd.isAgg5
  z5 := Tryd.sizeOf5
  v5 := Tryd.zeroValue5
  infoByte := by kernel_rfl
  cellsByte := by kernel_rfl
  sizeByte := by kernel_rfl
  neB5 := by decide }
open Go.RowKit in
/-- (*strings.Builder).Grow AT A BUILDER THAT HAS NOT BEEN WRITTEN ('var b strings.Builder; b.Grow(n)'): "Grow grows b's capacity, if necessary, to guarantee space for another n bytes.": it holds no byte behind it as before it. (LAID: no walk: one application.) -/
theorem Tryd.Builder_Grow_fresh (B b n : Nat) (w : World) (hB : B ≤ b) (hbk : w.heap[b]? = some (.cells #[.pointer none, .slice none 0 0] 101 (0, 0))) (hBw : B ≤ w.heap.size) (hn : n ≤ 281474976710656) :
    Calls Tryd.prog 72 #[.pointer (some ⟨b, 0, none⟩), .int .i64 n] w fun e w' => e = .returned (.tuple #[]) ∧ (Lib.BuilderAt 101 5 B b (.pointer (some ⟨b, 0, none⟩)) [] w' ∧ Below B w w') := Any.Builder_Grow_fresh Tryd.lays165 Tryd.Builder_Extra_165 B b n w hB hbk hBw hn
def Tryd.lays156_ren : Go.Shelf.Ren := ⟨fun | 156 => 54 | 165 => 72 | 166 => 73 | 169 => 74 | 240 => 88 | 241 => 89 | 276 => 97 | 277 => 98 | n => n, fun | 31 => 76 | 9 => 9 | 3 => 3 | 4 => 4 | 0 => 0 | 20 => 20 | 72 => 101 | 76 => 105 | 70 => 99 | 37 => 43 | 75 => 104 | 127 => 116 | 164 => 128 | 5 => 5 | 80 => 107 | n => n, fun | n => n⟩
theorem Tryd.lays156 : Go.Proofs.Lays.n156 Tryd.prog Tryd.lays156_ren := {
  mixed := by kernel_rfl
  f156 := Tryd.func54.trans (congrArg some (by kernel_rfl))
  f165 := Tryd.func72.trans (congrArg some (by kernel_rfl))
  f166 := Tryd.func73.trans (congrArg some (by kernel_rfl))
  f169 := Tryd.func74.trans (congrArg some (by kernel_rfl))
  f240 := Tryd.func88.trans (congrArg some (by kernel_rfl))
  f241 := Tryd.func89.trans (congrArg some (by kernel_rfl))
  f276 := Tryd.func97.trans (congrArg some (by kernel_rfl))
  f277 := Tryd.func98.trans (congrArg some (by kernel_rfl))
  t0 := Tryd.underlying0
  a0 := Tryd.isAgg0
  z0 := Tryd.sizeOf0
  v0 := Tryd.zeroValue0
  t3 := Tryd.underlying3
  a3 := Tryd.isAgg3
  z3 := Tryd.sizeOf3
  v3 := Tryd.zeroValue3
  t4 := Tryd.underlying4
  a4 := Tryd.isAgg4
  z4 := Tryd.sizeOf4
  v4 := Tryd.zeroValue4
  t9 := Tryd.underlying9
  a9 := Tryd.isAgg9
  z9 := Tryd.sizeOf9
  v9 := Tryd.zeroValue9
  t20 := Tryd.underlying20
  a20 := Tryd.isAgg20
  z20 := Tryd.sizeOf20
  v20 := Tryd.zeroValue20
  t31 := Tryd.underlying76
  a31 := Tryd.isAgg76
  z31 := Tryd.sizeOf76
  v31 := Tryd.zeroValue76
  t37 := Tryd.underlying43
  a37 := Tryd.isAgg43
  z37 := Tryd.sizeOf43
  v37 := Tryd.zeroValue43
  t70 := Tryd.underlying99
  a70 := Tryd.isAgg99
  z70 := Tryd.sizeOf99
  v70 := Tryd.zeroValue99
  t72 := Tryd.underlying101
  a72 := Tryd.isAgg101
  z72 := Tryd.sizeOf101
  v72 := Tryd.zeroValue101
  t75 := Tryd.underlying104
  a75 := Tryd.isAgg104
  z75 := Tryd.sizeOf104
  v75 := Tryd.zeroValue104
  t76 := Tryd.underlying105
  a76 := Tryd.isAgg105
  z76 := Tryd.sizeOf105
  v76 := Tryd.zeroValue105
  t127 := Tryd.underlying116
  a127 := Tryd.isAgg116
  z127 := Tryd.sizeOf116
  v127 := Tryd.zeroValue116
  t164 := Tryd.underlying128
  a164 := Tryd.isAgg128
  z164 := Tryd.sizeOf128
  v164 := Tryd.zeroValue128 }
theorem Tryd.Builder_Extra_156 : Builder.Extra Tryd.prog Tryd.lays156_ren := {
  sizeBuilder := by kernel_rfl
  liesBuilder := by kernel_rfl
  t5 := Tryd.underlying5
  a5 := Tryd.isAgg5
  z5 := Tryd.sizeOf5
  v5 := Tryd.zeroValue5
  infoByte := by kernel_rfl
  cellsByte := by kernel_rfl
  sizeByte := by kernel_rfl
  neB5 := by decide }
open Go.RowKit in
/-- No element: the empty string; the world is as it was. (Whatever the slice's address and capacity: a nil slice too.) (LAID: no walk: one application.) -/
theorem Tryd.strings_Join_none (a : Option Addr) (c : Nat) (sep : ByteArray) (w : World) :
    Calls Tryd.prog 54 #[.slice a 0 c, .string sep] w fun e w' => e = .returned (.string ⟨#[]⟩) ∧ w' = w := Any.strings_Join_none Tryd.lays156 Tryd.Builder_Extra_156 a c sep w
open Go.RowKit in
/-- strings.Join: "Join concatenates the elements of its first argument to create a single string. The separator string sep is placed between elements in the resulting string.": HOWEVER MANY ELEMENTS. Below the heap's end the world is as it was. (LAID: no walk: one application.) -/
theorem Tryd.strings_Join (bk o c : Nat) (xs : List ByteArray) (sep : ByteArray) (w : World) (hcells : ∀ (j : Nat) x, xs[j]? = some x → w.cell? ⟨bk, o + j, none⟩ = some (.string x)) (hbk : bk < w.heap.size) (hN : xs.length ≤ 140737488355328) (hcap : xs.length ≤ c) (hlen : (Lib.join (xs.map (·.data.toList)) sep.data.toList).length ≤ 140737488355328) :
    Calls Tryd.prog 54 #[.slice (some ⟨bk, o, none⟩) xs.length c, .string sep] w fun e w' => e = .returned (.string ⟨(Lib.join (xs.map (·.data.toList)) sep.data.toList).toArray⟩) ∧ Below w.heap.size w w' := Any.strings_Join Tryd.lays156 Tryd.Builder_Extra_156 bk o c xs sep w hcells hbk hN hcap hlen
def Tryd.lays137_ren : Go.Shelf.Ren := ⟨fun | 137 => 65 | 217 => 76 | 266 => 91 | n => n, fun | 9 => 9 | 5 => 5 | 3 => 3 | n => n, fun | n => n⟩
theorem Tryd.lays137 : Go.Proofs.Lays.n137 Tryd.prog Tryd.lays137_ren := {
  mixed := by kernel_rfl
  f137 := Tryd.func65.trans (congrArg some (by kernel_rfl))
  f217 := Tryd.func76.trans (congrArg some (by kernel_rfl))
  f266 := Tryd.func91.trans (congrArg some (by kernel_rfl))
  t3 := Tryd.underlying3
  a3 := Tryd.isAgg3
  z3 := Tryd.sizeOf3
  v3 := Tryd.zeroValue3
  t5 := Tryd.underlying5
  a5 := Tryd.isAgg5
  z5 := Tryd.sizeOf5
  v5 := Tryd.zeroValue5
  t9 := Tryd.underlying9
  a9 := Tryd.isAgg9
  z9 := Tryd.sizeOf9
  v9 := Tryd.zeroValue9 }
open Go.RowKit in
/-- strings.IndexByte: "IndexByte returns the index of the first instance of c in s, or -1 if c is not present in s.": IT RETURNS 'Lib.indexByte s c'; the world is as it was. (LAID: no walk: one application.) -/
theorem Tryd.strings_IndexByte (s : ByteArray) (c : Int) (w : World) :
    Calls Tryd.prog 65 #[.string s, .int .u8 c] w fun e w' => e = .returned (.int .i64 (Lib.indexByte s.data.toList c.toNat.toUInt8)) ∧ w' = w := Any.strings_IndexByte Tryd.lays137 s c w
def Tryd.lays129_ren : Go.Shelf.Ren := ⟨fun | 129 => 105 | n => n, fun | 53 => 123 | 3 => 3 | 4 => 4 | 46 => 79 | 5 => 5 | 9 => 9 | n => n, fun | n => n⟩
theorem Tryd.lays129 : Go.Proofs.Lays.n129 Tryd.prog Tryd.lays129_ren := {
  mixed := by kernel_rfl
  f129 := Tryd.func105.trans (congrArg some (by kernel_rfl))
  t3 := Tryd.underlying3
  a3 := Tryd.isAgg3
  z3 := Tryd.sizeOf3
  v3 := Tryd.zeroValue3
  t4 := Tryd.underlying4
  a4 := Tryd.isAgg4
  z4 := Tryd.sizeOf4
  v4 := Tryd.zeroValue4
  t5 := Tryd.underlying5
  a5 := Tryd.isAgg5
  z5 := Tryd.sizeOf5
  v5 := Tryd.zeroValue5
  t9 := Tryd.underlying9
  a9 := Tryd.isAgg9
  z9 := Tryd.sizeOf9
  v9 := Tryd.zeroValue9
  t46 := Tryd.underlying79
  a46 := Tryd.isAgg79
  z46 := Tryd.sizeOf79
  v46 := Tryd.zeroValue79
  t53 := Tryd.underlying123
  a53 := Tryd.isAgg123
  z53 := Tryd.sizeOf123
  v53 := Tryd.zeroValue123 }
/-- bits.Len64: "Len64 returns the minimum number of bits required to represent x; the result is 0 for x == 0.": IT RETURNS 'Lib.bitLen x'; the world is as it was. ('h0', 'h1': x is a uint64.) (LAID: no walk: one application.) -/
theorem Tryd.bits_Len64 (x : Int) (w : World) (h0 : 0 ≤ x) (h1 : x ≤ 18446744073709551615) :
    Calls Tryd.prog 105 #[.int .u64 x] w fun e w' => e = .returned (.int .i64 (Lib.bitLen x.toNat)) ∧ w' = w := Any.bits_Len64 Tryd.lays129 x w h0 h1
def Tryd.lays317_ren : Go.Shelf.Ren := ⟨fun | 317 => 104 | n => n, fun | 3 => 3 | 46 => 79 | n => n, fun | n => n⟩
theorem Tryd.lays317 : Go.Proofs.Lays.n317 Tryd.prog Tryd.lays317_ren := {
  mixed := by kernel_rfl
  f317 := Tryd.func104.trans (congrArg some (by kernel_rfl))
  t3 := Tryd.underlying3
  a3 := Tryd.isAgg3
  z3 := Tryd.sizeOf3
  v3 := Tryd.zeroValue3
  t46 := Tryd.underlying79
  a46 := Tryd.isAgg79
  z46 := Tryd.sizeOf79
  v46 := Tryd.zeroValue79 }
open Go.Lib in
/-- internal/strconv.log10Pow2: "log10Pow2(x) returns ⌊log₁₀ 2**x⌋ = ⌊x * log₁₀ 2⌋.": '(x * 78913) >> 18', at an x up to 64 (a length in bits). The world is as it was. (LAID: no walk: one application.) -/
theorem Tryd.internal_strconv_log10Pow2 (x : Nat) (h : x ≤ 64) (w : World) :
    Calls Tryd.prog 104 #[.int .i64 x] w fun e w' => e = .returned (.int .i64 (Lib.l10 x)) ∧ w' = w := Any.internal_strconv_log10Pow2 Tryd.lays317 x h w
def Tryd.lays318_ren : Go.Shelf.Ren := ⟨fun | 318 => 106 | n => n, fun | 3 => 3 | 4 => 4 | n => n, fun | n => n⟩
theorem Tryd.lays318 : Go.Proofs.Lays.n318 Tryd.prog Tryd.lays318_ren := {
  mixed := by kernel_rfl
  f318 := Tryd.func106.trans (congrArg some (by kernel_rfl))
  t3 := Tryd.underlying3
  a3 := Tryd.isAgg3
  z3 := Tryd.sizeOf3
  v3 := Tryd.zeroValue3
  t4 := Tryd.underlying4
  a4 := Tryd.isAgg4
  z4 := Tryd.sizeOf4
  v4 := Tryd.zeroValue4 }
open Go.Lib in
/-- internal/strconv.bool2: "bool2 converts b to an integer: 1 for true, 0 for false." The world is as it was. (LAID: no walk: one application.) -/
theorem Tryd.internal_strconv_bool2_int (b : Bool) (w : World) :
    Calls Tryd.prog 106 #[.bool b] w fun e w' => e = .returned (.int .i64 (if b then 1 else 0)) ∧ w' = w := Any.internal_strconv_bool2_int Tryd.lays318 b w
def Tryd.lays283_ren : Go.Shelf.Ren := ⟨fun | 283 => 93 | n => n, fun | 3 => 3 | 9 => 9 | 4 => 4 | n => n, fun | n => n⟩
theorem Tryd.lays283 : Go.Proofs.Lays.n283 Tryd.prog Tryd.lays283_ren := {
  mixed := by kernel_rfl
  f283 := Tryd.func93.trans (congrArg some (by kernel_rfl))
  t3 := Tryd.underlying3
  a3 := Tryd.isAgg3
  z3 := Tryd.sizeOf3
  v3 := Tryd.zeroValue3
  t4 := Tryd.underlying4
  a4 := Tryd.isAgg4
  z4 := Tryd.sizeOf4
  v4 := Tryd.zeroValue4
  t9 := Tryd.underlying9
  a9 := Tryd.isAgg9
  z9 := Tryd.sizeOf9
  v9 := Tryd.zeroValue9 }
open Go.Lib in
/-- internal/strconv.small: "small returns the string for an i with 0 <= i < nSmalls.": i's decimal numeral. The world is as it was. (LAID: no walk: one application.) -/
theorem Tryd.internal_strconv_small (i : Nat) (h : i < 100) (w : World) :
    Calls Tryd.prog 93 #[.int .i64 i] w fun e w' => e = .returned (.string ⟨(Lib.decDigits i).toArray⟩) ∧ w' = w := Any.internal_strconv_small Tryd.lays283 i h w
def Tryd.laysM284_ren : Go.Shelf.Ren := ⟨fun | 284 => 94 | 129 => 105 | 317 => 104 | 318 => 106 | n => n, fun | 53 => 123 | 3 => 3 | 212 => 143 | 0 => 0 | 4 => 4 | 46 => 79 | 5 => 5 | 9 => 9 | n => n, fun | 17 => 3 | n => n⟩
theorem Tryd.laysM284 : Go.Proofs.LaysM.n284 Tryd.prog Tryd.laysM284_ren := {
  mixed := by kernel_rfl
  f129 := Tryd.func105.trans (congrArg some (by kernel_rfl))
  f284 := Tryd.func94.trans (congrArg some (by kernel_rfl))
  f317 := Tryd.func104.trans (congrArg some (by kernel_rfl))
  f318 := Tryd.func106.trans (congrArg some (by kernel_rfl))
  t0 := Tryd.underlying0
  a0 := Tryd.isAgg0
  z0 := Tryd.sizeOf0
  v0 := Tryd.zeroValue0
  t3 := Tryd.underlying3
  a3 := Tryd.isAgg3
  z3 := Tryd.sizeOf3
  v3 := Tryd.zeroValue3
  t4 := Tryd.underlying4
  a4 := Tryd.isAgg4
  z4 := Tryd.sizeOf4
  v4 := Tryd.zeroValue4
  t5 := Tryd.underlying5
  a5 := Tryd.isAgg5
  z5 := Tryd.sizeOf5
  v5 := Tryd.zeroValue5
  t9 := Tryd.underlying9
  a9 := Tryd.isAgg9
  z9 := Tryd.sizeOf9
  v9 := Tryd.zeroValue9
  t46 := Tryd.underlying79
  a46 := Tryd.isAgg79
  z46 := Tryd.sizeOf79
  v46 := Tryd.zeroValue79
  t53 := Tryd.underlying123
  a53 := Tryd.isAgg123
  z53 := Tryd.sizeOf123
  v53 := Tryd.zeroValue123
  t212 := Tryd.underlying143
  a212 := Tryd.isAgg143
  z212 := Tryd.sizeOf143
  v212 := Tryd.zeroValue143
  g17 := by kernel_rfl
  i0 := by kernel_rfl
  i3 := by kernel_rfl
  i4 := by kernel_rfl
  i5 := by kernel_rfl
  i9 := by kernel_rfl
  i46 := by kernel_rfl
  i53 := by kernel_rfl
  i212 := by kernel_rfl
  m17 := by kernel_rfl }
open Go.Lib in
/-- internal/strconv.numDigits, at a d that is not 0: THE NUMBER OF d's DECIMAL DIGITS. The world is as it was. (LAID: no walk: one application.) -/
theorem Tryd.internal_strconv_numDigits (u : Nat) (h1 : 1 ≤ u) (h2 : u < 18446744073709551616) (w : World) (htab : Lib.TabIs Tryd.prog w "internal/strconv.uint64pow10" .u64 Lib.pow10Tab) :
    Calls Tryd.prog 94 #[.int .u64 u] w fun e w' => e = .returned (.int .i64 (Lib.nDigits u)) ∧ w' = w := Any.internal_strconv_numDigits Tryd.laysM284 u h1 h2 w htab
def Tryd.lays285_ren : Go.Shelf.Ren := ⟨fun | 285 => 95 | n => n, fun | 37 => 43 | 53 => 123 | 3 => 3 | 4 => 4 | 51 => 82 | 9 => 9 | 5 => 5 | 0 => 0 | n => n, fun | n => n⟩
theorem Tryd.lays285 : Go.Proofs.Lays.n285 Tryd.prog Tryd.lays285_ren := {
  mixed := by kernel_rfl
  f285 := Tryd.func95.trans (congrArg some (by kernel_rfl))
  t0 := Tryd.underlying0
  a0 := Tryd.isAgg0
  z0 := Tryd.sizeOf0
  v0 := Tryd.zeroValue0
  t3 := Tryd.underlying3
  a3 := Tryd.isAgg3
  z3 := Tryd.sizeOf3
  v3 := Tryd.zeroValue3
  t4 := Tryd.underlying4
  a4 := Tryd.isAgg4
  z4 := Tryd.sizeOf4
  v4 := Tryd.zeroValue4
  t5 := Tryd.underlying5
  a5 := Tryd.isAgg5
  z5 := Tryd.sizeOf5
  v5 := Tryd.zeroValue5
  t9 := Tryd.underlying9
  a9 := Tryd.isAgg9
  z9 := Tryd.sizeOf9
  v9 := Tryd.zeroValue9
  t37 := Tryd.underlying43
  a37 := Tryd.isAgg43
  z37 := Tryd.sizeOf43
  v37 := Tryd.zeroValue43
  t51 := Tryd.underlying82
  a51 := Tryd.isAgg82
  z51 := Tryd.sizeOf82
  v51 := Tryd.zeroValue82
  t53 := Tryd.underlying123
  a53 := Tryd.isAgg123
  z53 := Tryd.sizeOf123
  v53 := Tryd.zeroValue123 }
open Go.RowKit Go.Sort Go.Lib in
/-- internal/strconv.formatBase10: "formatBase10 formats the decimal representation of u into a. The caller is responsible for ensuring that a is big enough to hold u. If a is too big, leading zeros will be filled in as needed.": THE ROW HOLDS u's DIGITS ('FmtInv .. 0 ..': every place t holds 'dg u (len - 1 - t)'); all else is as it was but for the count of draws. (LAID: no walk: one application.) -/
theorem Tryd.internal_strconv_formatBase10 (blk off cap : Nat) (u : Nat) (d : Array UInt8) (w : World) (hH : Holds (fun (b : UInt8) => Value.int .u8 (b.toNat : Int)) w blk off d) (hu : u < 10 ^ d.size) (hu64 : u < 18446744073709551616) (hsz : d.size < 4611686018427387904) :
    Calls Tryd.prog 95 #[.slice (some ⟨blk, off, none⟩) d.size cap, .int .u64 u] w fun e w' =>
      e = .returned (.tuple #[]) ∧ ∃ (n v' : Nat) (dk : Array UInt8), w' = (putRow (fun (b : UInt8) => Value.int .u8 (b.toNat : Int)) w blk off dk).drewN n ∧ FmtInv d.size u 0 v' dk := Any.internal_strconv_formatBase10 Tryd.lays285 blk off cap u d w hH hu hu64 hsz
def Tryd.laysM246_ren : Go.Shelf.Ren := ⟨fun | 246 => 87 | 283 => 93 | 284 => 94 | 285 => 95 | 286 => 96 | 129 => 105 | 317 => 104 | 318 => 106 | 319 => 107 | 320 => 108 | 337 => 110 | 338 => 111 | n => n, fun | 2 => 2 | 3 => 3 | 9 => 9 | 4 => 4 | 171 => 122 | 0 => 0 | 53 => 123 | 37 => 43 | 5 => 5 | 173 => 126 | 212 => 143 | 51 => 82 | 20 => 20 | 213 => 144 | 46 => 79 | 232 => 151 | 233 => 152 | n => n, fun | 17 => 3 | 18 => 4 | 19 => 5 | n => n⟩
theorem Tryd.laysM246 : Go.Proofs.LaysM.n246 Tryd.prog Tryd.laysM246_ren := {
  mixed := by kernel_rfl
  f129 := Tryd.func105.trans (congrArg some (by kernel_rfl))
  f246 := Tryd.func87.trans (congrArg some (by kernel_rfl))
  f283 := Tryd.func93.trans (congrArg some (by kernel_rfl))
  f284 := Tryd.func94.trans (congrArg some (by kernel_rfl))
  f285 := Tryd.func95.trans (congrArg some (by kernel_rfl))
  f286 := Tryd.func96.trans (congrArg some (by kernel_rfl))
  f317 := Tryd.func104.trans (congrArg some (by kernel_rfl))
  f318 := Tryd.func106.trans (congrArg some (by kernel_rfl))
  f319 := Tryd.func107.trans (congrArg some (by kernel_rfl))
  f320 := Tryd.func108.trans (congrArg some (by kernel_rfl))
  f337 := Tryd.func110.trans (congrArg some (by kernel_rfl))
  f338 := Tryd.func111.trans (congrArg some (by kernel_rfl))
  t0 := Tryd.underlying0
  a0 := Tryd.isAgg0
  z0 := Tryd.sizeOf0
  v0 := Tryd.zeroValue0
  t2 := Tryd.underlying2
  a2 := Tryd.isAgg2
  z2 := Tryd.sizeOf2
  v2 := Tryd.zeroValue2
  t3 := Tryd.underlying3
  a3 := Tryd.isAgg3
  z3 := Tryd.sizeOf3
  v3 := Tryd.zeroValue3
  t4 := Tryd.underlying4
  a4 := Tryd.isAgg4
  z4 := Tryd.sizeOf4
  v4 := Tryd.zeroValue4
  t5 := Tryd.underlying5
  a5 := Tryd.isAgg5
  z5 := Tryd.sizeOf5
  v5 := Tryd.zeroValue5
  t9 := Tryd.underlying9
  a9 := Tryd.isAgg9
  z9 := Tryd.sizeOf9
  v9 := Tryd.zeroValue9
  t20 := Tryd.underlying20
  a20 := Tryd.isAgg20
  z20 := Tryd.sizeOf20
  v20 := Tryd.zeroValue20
  t37 := Tryd.underlying43
  a37 := Tryd.isAgg43
  z37 := Tryd.sizeOf43
  v37 := Tryd.zeroValue43
  t46 := Tryd.underlying79
  a46 := Tryd.isAgg79
  z46 := Tryd.sizeOf79
  v46 := Tryd.zeroValue79
  t51 := Tryd.underlying82
  a51 := Tryd.isAgg82
  z51 := Tryd.sizeOf82
  v51 := Tryd.zeroValue82
  t53 := Tryd.underlying123
  a53 := Tryd.isAgg123
  z53 := Tryd.sizeOf123
  v53 := Tryd.zeroValue123
  t171 := Tryd.underlying122
  a171 := Tryd.isAgg122
  z171 := Tryd.sizeOf122
  v171 := Tryd.zeroValue122
  t173 := Tryd.underlying126
  a173 := Tryd.isAgg126
  z173 := Tryd.sizeOf126
  v173 := Tryd.zeroValue126
  t212 := Tryd.underlying143
  a212 := Tryd.isAgg143
  z212 := Tryd.sizeOf143
  v212 := Tryd.zeroValue143
  t213 := Tryd.underlying144
  a213 := Tryd.isAgg144
  z213 := Tryd.sizeOf144
  t232 := Tryd.underlying151
  a232 := Tryd.isAgg151
  z232 := Tryd.sizeOf151
  v232 := Tryd.zeroValue151
  t233 := Tryd.underlying152
  a233 := Tryd.isAgg152
  z233 := Tryd.sizeOf152
  v233 := Tryd.zeroValue152
  g17 := by kernel_rfl
  g18 := by kernel_rfl
  g19 := by kernel_rfl
  i0 := by kernel_rfl
  i2 := by kernel_rfl
  i3 := by kernel_rfl
  i4 := by kernel_rfl
  i5 := by kernel_rfl
  i9 := by kernel_rfl
  i20 := by kernel_rfl
  i37 := by kernel_rfl
  i46 := by kernel_rfl
  i51 := by kernel_rfl
  i53 := by kernel_rfl
  i171 := by kernel_rfl
  i173 := by kernel_rfl
  i212 := by kernel_rfl
  i232 := by kernel_rfl
  i233 := by kernel_rfl
  m17 := by kernel_rfl
  m18 := by kernel_rfl
  m19 := by kernel_rfl }
open Go.RowKit Go.Sort Go.Lib in
/-- internal/strconv.FormatInt: "FormatInt returns the string representation of i in the given base": AT BASE 10: i's decimal numeral, for every int64. The world behind the call: the world before it, new blocks behind the heap, draws. (LAID: no walk: one application.) -/
theorem Tryd.internal_strconv_FormatInt_10 (n : Int) (h0 : -9223372036854775808 ≤ n) (h1 : n ≤ 9223372036854775807) (w : World) (htab : Lib.TabIs Tryd.prog w "internal/strconv.uint64pow10" .u64 Lib.pow10Tab) :
    Calls Tryd.prog 87 #[.int .i64 n, .int .i64 10] w fun e w' => e = .returned (.string ⟨(Lib.itoa n).toArray⟩) ∧ ∃ k os, w' = grow (w.drewN k) os := Any.internal_strconv_FormatInt_10 Tryd.laysM246 n h0 h1 w htab
def Tryd.lays246_ren : Go.Shelf.Ren := ⟨fun | 246 => 87 | 283 => 93 | 284 => 94 | 285 => 95 | 286 => 96 | 129 => 105 | 317 => 104 | 318 => 106 | 319 => 107 | 320 => 108 | 337 => 110 | 338 => 111 | n => n, fun | 2 => 2 | 3 => 3 | 9 => 9 | 4 => 4 | 171 => 122 | 0 => 0 | 53 => 123 | 37 => 43 | 5 => 5 | 173 => 126 | 212 => 143 | 51 => 82 | 20 => 20 | 213 => 144 | 46 => 79 | 232 => 151 | 233 => 152 | n => n, fun | 17 => 3 | 18 => 4 | 19 => 5 | n => n⟩
theorem Tryd.lays246 : Go.Proofs.Lays.n246 Tryd.prog Tryd.lays246_ren := {
  mixed := by kernel_rfl
  f129 := Tryd.func105.trans (congrArg some (by kernel_rfl))
  f246 := Tryd.func87.trans (congrArg some (by kernel_rfl))
  f283 := Tryd.func93.trans (congrArg some (by kernel_rfl))
  f284 := Tryd.func94.trans (congrArg some (by kernel_rfl))
  f285 := Tryd.func95.trans (congrArg some (by kernel_rfl))
  f286 := Tryd.func96.trans (congrArg some (by kernel_rfl))
  f317 := Tryd.func104.trans (congrArg some (by kernel_rfl))
  f318 := Tryd.func106.trans (congrArg some (by kernel_rfl))
  f319 := Tryd.func107.trans (congrArg some (by kernel_rfl))
  f320 := Tryd.func108.trans (congrArg some (by kernel_rfl))
  f337 := Tryd.func110.trans (congrArg some (by kernel_rfl))
  f338 := Tryd.func111.trans (congrArg some (by kernel_rfl))
  t0 := Tryd.underlying0
  a0 := Tryd.isAgg0
  z0 := Tryd.sizeOf0
  v0 := Tryd.zeroValue0
  t2 := Tryd.underlying2
  a2 := Tryd.isAgg2
  z2 := Tryd.sizeOf2
  v2 := Tryd.zeroValue2
  t3 := Tryd.underlying3
  a3 := Tryd.isAgg3
  z3 := Tryd.sizeOf3
  v3 := Tryd.zeroValue3
  t4 := Tryd.underlying4
  a4 := Tryd.isAgg4
  z4 := Tryd.sizeOf4
  v4 := Tryd.zeroValue4
  t5 := Tryd.underlying5
  a5 := Tryd.isAgg5
  z5 := Tryd.sizeOf5
  v5 := Tryd.zeroValue5
  t9 := Tryd.underlying9
  a9 := Tryd.isAgg9
  z9 := Tryd.sizeOf9
  v9 := Tryd.zeroValue9
  t20 := Tryd.underlying20
  a20 := Tryd.isAgg20
  z20 := Tryd.sizeOf20
  v20 := Tryd.zeroValue20
  t37 := Tryd.underlying43
  a37 := Tryd.isAgg43
  z37 := Tryd.sizeOf43
  v37 := Tryd.zeroValue43
  t46 := Tryd.underlying79
  a46 := Tryd.isAgg79
  z46 := Tryd.sizeOf79
  v46 := Tryd.zeroValue79
  t51 := Tryd.underlying82
  a51 := Tryd.isAgg82
  z51 := Tryd.sizeOf82
  v51 := Tryd.zeroValue82
  t53 := Tryd.underlying123
  a53 := Tryd.isAgg123
  z53 := Tryd.sizeOf123
  v53 := Tryd.zeroValue123
  t171 := Tryd.underlying122
  a171 := Tryd.isAgg122
  z171 := Tryd.sizeOf122
  v171 := Tryd.zeroValue122
  t173 := Tryd.underlying126
  a173 := Tryd.isAgg126
  z173 := Tryd.sizeOf126
  v173 := Tryd.zeroValue126
  t212 := Tryd.underlying143
  a212 := Tryd.isAgg143
  z212 := Tryd.sizeOf143
  v212 := Tryd.zeroValue143
  t213 := Tryd.underlying144
  a213 := Tryd.isAgg144
  z213 := Tryd.sizeOf144
  t232 := Tryd.underlying151
  a232 := Tryd.isAgg151
  z232 := Tryd.sizeOf151
  v232 := Tryd.zeroValue151
  t233 := Tryd.underlying152
  a233 := Tryd.isAgg152
  z233 := Tryd.sizeOf152
  v233 := Tryd.zeroValue152
  g17 := by kernel_rfl
  g18 := by kernel_rfl
  g19 := by kernel_rfl }
open Go.RowKit Go.Sort Go.Lib in
/-- THE ROAD WITHOUT THE TABLE: 0 <= i < 100: two constants are read, nothing is laid: no premise on the world, and the world is as it was. (LAID: no walk: one application.) -/
theorem Tryd.internal_strconv_FormatInt_10_small (i : Nat) (hi : i < 100) (w : World) :
    Calls Tryd.prog 87 #[.int .i64 i, .int .i64 10] w fun e w' => e = .returned (.string ⟨(Lib.decDigits i).toArray⟩) ∧ w' = w := Any.internal_strconv_FormatInt_10_small Tryd.lays246 i hi w
def Tryd.laysM243_ren : Go.Shelf.Ren := ⟨fun | 243 => 71 | 246 => 87 | 283 => 93 | 284 => 94 | 285 => 95 | 286 => 96 | 129 => 105 | 317 => 104 | 318 => 106 | 319 => 107 | 320 => 108 | 337 => 110 | 338 => 111 | n => n, fun | 3 => 3 | 9 => 9 | 2 => 2 | 4 => 4 | 171 => 122 | 0 => 0 | 53 => 123 | 37 => 43 | 5 => 5 | 173 => 126 | 212 => 143 | 51 => 82 | 20 => 20 | 213 => 144 | 46 => 79 | 232 => 151 | 233 => 152 | n => n, fun | 17 => 3 | 18 => 4 | 19 => 5 | n => n⟩
theorem Tryd.laysM243 : Go.Proofs.LaysM.n243 Tryd.prog Tryd.laysM243_ren := {
  mixed := by kernel_rfl
  f129 := Tryd.func105.trans (congrArg some (by kernel_rfl))
  f243 := Tryd.func71.trans (congrArg some (by kernel_rfl))
  f246 := Tryd.func87.trans (congrArg some (by kernel_rfl))
  f283 := Tryd.func93.trans (congrArg some (by kernel_rfl))
  f284 := Tryd.func94.trans (congrArg some (by kernel_rfl))
  f285 := Tryd.func95.trans (congrArg some (by kernel_rfl))
  f286 := Tryd.func96.trans (congrArg some (by kernel_rfl))
  f317 := Tryd.func104.trans (congrArg some (by kernel_rfl))
  f318 := Tryd.func106.trans (congrArg some (by kernel_rfl))
  f319 := Tryd.func107.trans (congrArg some (by kernel_rfl))
  f320 := Tryd.func108.trans (congrArg some (by kernel_rfl))
  f337 := Tryd.func110.trans (congrArg some (by kernel_rfl))
  f338 := Tryd.func111.trans (congrArg some (by kernel_rfl))
  t0 := Tryd.underlying0
  a0 := Tryd.isAgg0
  z0 := Tryd.sizeOf0
  v0 := Tryd.zeroValue0
  t2 := Tryd.underlying2
  a2 := Tryd.isAgg2
  z2 := Tryd.sizeOf2
  v2 := Tryd.zeroValue2
  t3 := Tryd.underlying3
  a3 := Tryd.isAgg3
  z3 := Tryd.sizeOf3
  v3 := Tryd.zeroValue3
  t4 := Tryd.underlying4
  a4 := Tryd.isAgg4
  z4 := Tryd.sizeOf4
  v4 := Tryd.zeroValue4
  t5 := Tryd.underlying5
  a5 := Tryd.isAgg5
  z5 := Tryd.sizeOf5
  v5 := Tryd.zeroValue5
  t9 := Tryd.underlying9
  a9 := Tryd.isAgg9
  z9 := Tryd.sizeOf9
  v9 := Tryd.zeroValue9
  t20 := Tryd.underlying20
  a20 := Tryd.isAgg20
  z20 := Tryd.sizeOf20
  v20 := Tryd.zeroValue20
  t37 := Tryd.underlying43
  a37 := Tryd.isAgg43
  z37 := Tryd.sizeOf43
  v37 := Tryd.zeroValue43
  t46 := Tryd.underlying79
  a46 := Tryd.isAgg79
  z46 := Tryd.sizeOf79
  v46 := Tryd.zeroValue79
  t51 := Tryd.underlying82
  a51 := Tryd.isAgg82
  z51 := Tryd.sizeOf82
  v51 := Tryd.zeroValue82
  t53 := Tryd.underlying123
  a53 := Tryd.isAgg123
  z53 := Tryd.sizeOf123
  v53 := Tryd.zeroValue123
  t171 := Tryd.underlying122
  a171 := Tryd.isAgg122
  z171 := Tryd.sizeOf122
  v171 := Tryd.zeroValue122
  t173 := Tryd.underlying126
  a173 := Tryd.isAgg126
  z173 := Tryd.sizeOf126
  v173 := Tryd.zeroValue126
  t212 := Tryd.underlying143
  a212 := Tryd.isAgg143
  z212 := Tryd.sizeOf143
  v212 := Tryd.zeroValue143
  t213 := Tryd.underlying144
  a213 := Tryd.isAgg144
  z213 := Tryd.sizeOf144
  t232 := Tryd.underlying151
  a232 := Tryd.isAgg151
  z232 := Tryd.sizeOf151
  v232 := Tryd.zeroValue151
  t233 := Tryd.underlying152
  a233 := Tryd.isAgg152
  z233 := Tryd.sizeOf152
  v233 := Tryd.zeroValue152
  g17 := by kernel_rfl
  g18 := by kernel_rfl
  g19 := by kernel_rfl
  i0 := by kernel_rfl
  i2 := by kernel_rfl
  i3 := by kernel_rfl
  i4 := by kernel_rfl
  i5 := by kernel_rfl
  i9 := by kernel_rfl
  i20 := by kernel_rfl
  i37 := by kernel_rfl
  i46 := by kernel_rfl
  i51 := by kernel_rfl
  i53 := by kernel_rfl
  i171 := by kernel_rfl
  i173 := by kernel_rfl
  i212 := by kernel_rfl
  i232 := by kernel_rfl
  i233 := by kernel_rfl
  m17 := by kernel_rfl
  m18 := by kernel_rfl
  m19 := by kernel_rfl }
open Go.RowKit Go.Sort Go.Lib in
/-- internal/strconv.Itoa: "Itoa is equivalent to FormatInt(int64(i), 10).": i's decimal numeral, for every int. (LAID: no walk: one application.) -/
theorem Tryd.internal_strconv_Itoa (n : Int) (h0 : -9223372036854775808 ≤ n) (h1 : n ≤ 9223372036854775807) (w : World) (htab : Lib.TabIs Tryd.prog w "internal/strconv.uint64pow10" .u64 Lib.pow10Tab) :
    Calls Tryd.prog 71 #[.int .i64 n] w fun e w' => e = .returned (.string ⟨(Lib.itoa n).toArray⟩) ∧ ∃ k os, w' = grow (w.drewN k) os := Any.internal_strconv_Itoa Tryd.laysM243 n h0 h1 w htab
def Tryd.lays243_ren : Go.Shelf.Ren := ⟨fun | 243 => 71 | 246 => 87 | 283 => 93 | 284 => 94 | 285 => 95 | 286 => 96 | 129 => 105 | 317 => 104 | 318 => 106 | 319 => 107 | 320 => 108 | 337 => 110 | 338 => 111 | n => n, fun | 3 => 3 | 9 => 9 | 2 => 2 | 4 => 4 | 171 => 122 | 0 => 0 | 53 => 123 | 37 => 43 | 5 => 5 | 173 => 126 | 212 => 143 | 51 => 82 | 20 => 20 | 213 => 144 | 46 => 79 | 232 => 151 | 233 => 152 | n => n, fun | 17 => 3 | 18 => 4 | 19 => 5 | n => n⟩
theorem Tryd.lays243 : Go.Proofs.Lays.n243 Tryd.prog Tryd.lays243_ren := {
  mixed := by kernel_rfl
  f129 := Tryd.func105.trans (congrArg some (by kernel_rfl))
  f243 := Tryd.func71.trans (congrArg some (by kernel_rfl))
  f246 := Tryd.func87.trans (congrArg some (by kernel_rfl))
  f283 := Tryd.func93.trans (congrArg some (by kernel_rfl))
  f284 := Tryd.func94.trans (congrArg some (by kernel_rfl))
  f285 := Tryd.func95.trans (congrArg some (by kernel_rfl))
  f286 := Tryd.func96.trans (congrArg some (by kernel_rfl))
  f317 := Tryd.func104.trans (congrArg some (by kernel_rfl))
  f318 := Tryd.func106.trans (congrArg some (by kernel_rfl))
  f319 := Tryd.func107.trans (congrArg some (by kernel_rfl))
  f320 := Tryd.func108.trans (congrArg some (by kernel_rfl))
  f337 := Tryd.func110.trans (congrArg some (by kernel_rfl))
  f338 := Tryd.func111.trans (congrArg some (by kernel_rfl))
  t0 := Tryd.underlying0
  a0 := Tryd.isAgg0
  z0 := Tryd.sizeOf0
  v0 := Tryd.zeroValue0
  t2 := Tryd.underlying2
  a2 := Tryd.isAgg2
  z2 := Tryd.sizeOf2
  v2 := Tryd.zeroValue2
  t3 := Tryd.underlying3
  a3 := Tryd.isAgg3
  z3 := Tryd.sizeOf3
  v3 := Tryd.zeroValue3
  t4 := Tryd.underlying4
  a4 := Tryd.isAgg4
  z4 := Tryd.sizeOf4
  v4 := Tryd.zeroValue4
  t5 := Tryd.underlying5
  a5 := Tryd.isAgg5
  z5 := Tryd.sizeOf5
  v5 := Tryd.zeroValue5
  t9 := Tryd.underlying9
  a9 := Tryd.isAgg9
  z9 := Tryd.sizeOf9
  v9 := Tryd.zeroValue9
  t20 := Tryd.underlying20
  a20 := Tryd.isAgg20
  z20 := Tryd.sizeOf20
  v20 := Tryd.zeroValue20
  t37 := Tryd.underlying43
  a37 := Tryd.isAgg43
  z37 := Tryd.sizeOf43
  v37 := Tryd.zeroValue43
  t46 := Tryd.underlying79
  a46 := Tryd.isAgg79
  z46 := Tryd.sizeOf79
  v46 := Tryd.zeroValue79
  t51 := Tryd.underlying82
  a51 := Tryd.isAgg82
  z51 := Tryd.sizeOf82
  v51 := Tryd.zeroValue82
  t53 := Tryd.underlying123
  a53 := Tryd.isAgg123
  z53 := Tryd.sizeOf123
  v53 := Tryd.zeroValue123
  t171 := Tryd.underlying122
  a171 := Tryd.isAgg122
  z171 := Tryd.sizeOf122
  v171 := Tryd.zeroValue122
  t173 := Tryd.underlying126
  a173 := Tryd.isAgg126
  z173 := Tryd.sizeOf126
  v173 := Tryd.zeroValue126
  t212 := Tryd.underlying143
  a212 := Tryd.isAgg143
  z212 := Tryd.sizeOf143
  v212 := Tryd.zeroValue143
  t213 := Tryd.underlying144
  a213 := Tryd.isAgg144
  z213 := Tryd.sizeOf144
  t232 := Tryd.underlying151
  a232 := Tryd.isAgg151
  z232 := Tryd.sizeOf151
  v232 := Tryd.zeroValue151
  t233 := Tryd.underlying152
  a233 := Tryd.isAgg152
  z233 := Tryd.sizeOf152
  v233 := Tryd.zeroValue152
  g17 := by kernel_rfl
  g18 := by kernel_rfl
  g19 := by kernel_rfl }
open Go.RowKit Go.Sort Go.Lib in
/-- THE ROAD WITHOUT THE TABLE: 0 <= i < 100. (LAID: no walk: one application.) -/
theorem Tryd.internal_strconv_Itoa_small (i : Nat) (hi : i < 100) (w : World) :
    Calls Tryd.prog 71 #[.int .i64 i] w fun e w' => e = .returned (.string ⟨(Lib.decDigits i).toArray⟩) ∧ w' = w := Any.internal_strconv_Itoa_small Tryd.lays243 i hi w
def Tryd.laysM171_ren : Go.Shelf.Ren := ⟨fun | 171 => 53 | 243 => 71 | 246 => 87 | 283 => 93 | 284 => 94 | 285 => 95 | 286 => 96 | 129 => 105 | 317 => 104 | 318 => 106 | 319 => 107 | 320 => 108 | 337 => 110 | 338 => 111 | n => n, fun | 3 => 3 | 9 => 9 | 2 => 2 | 4 => 4 | 171 => 122 | 0 => 0 | 53 => 123 | 37 => 43 | 5 => 5 | 173 => 126 | 212 => 143 | 51 => 82 | 20 => 20 | 213 => 144 | 46 => 79 | 232 => 151 | 233 => 152 | n => n, fun | 17 => 3 | 18 => 4 | 19 => 5 | n => n⟩
theorem Tryd.laysM171 : Go.Proofs.LaysM.n171 Tryd.prog Tryd.laysM171_ren := {
  mixed := by kernel_rfl
  f129 := Tryd.func105.trans (congrArg some (by kernel_rfl))
  f171 := Tryd.func53.trans (congrArg some (by kernel_rfl))
  f243 := Tryd.func71.trans (congrArg some (by kernel_rfl))
  f246 := Tryd.func87.trans (congrArg some (by kernel_rfl))
  f283 := Tryd.func93.trans (congrArg some (by kernel_rfl))
  f284 := Tryd.func94.trans (congrArg some (by kernel_rfl))
  f285 := Tryd.func95.trans (congrArg some (by kernel_rfl))
  f286 := Tryd.func96.trans (congrArg some (by kernel_rfl))
  f317 := Tryd.func104.trans (congrArg some (by kernel_rfl))
  f318 := Tryd.func106.trans (congrArg some (by kernel_rfl))
  f319 := Tryd.func107.trans (congrArg some (by kernel_rfl))
  f320 := Tryd.func108.trans (congrArg some (by kernel_rfl))
  f337 := Tryd.func110.trans (congrArg some (by kernel_rfl))
  f338 := Tryd.func111.trans (congrArg some (by kernel_rfl))
  t0 := Tryd.underlying0
  a0 := Tryd.isAgg0
  z0 := Tryd.sizeOf0
  v0 := Tryd.zeroValue0
  t2 := Tryd.underlying2
  a2 := Tryd.isAgg2
  z2 := Tryd.sizeOf2
  v2 := Tryd.zeroValue2
  t3 := Tryd.underlying3
  a3 := Tryd.isAgg3
  z3 := Tryd.sizeOf3
  v3 := Tryd.zeroValue3
  t4 := Tryd.underlying4
  a4 := Tryd.isAgg4
  z4 := Tryd.sizeOf4
  v4 := Tryd.zeroValue4
  t5 := Tryd.underlying5
  a5 := Tryd.isAgg5
  z5 := Tryd.sizeOf5
  v5 := Tryd.zeroValue5
  t9 := Tryd.underlying9
  a9 := Tryd.isAgg9
  z9 := Tryd.sizeOf9
  v9 := Tryd.zeroValue9
  t20 := Tryd.underlying20
  a20 := Tryd.isAgg20
  z20 := Tryd.sizeOf20
  v20 := Tryd.zeroValue20
  t37 := Tryd.underlying43
  a37 := Tryd.isAgg43
  z37 := Tryd.sizeOf43
  v37 := Tryd.zeroValue43
  t46 := Tryd.underlying79
  a46 := Tryd.isAgg79
  z46 := Tryd.sizeOf79
  v46 := Tryd.zeroValue79
  t51 := Tryd.underlying82
  a51 := Tryd.isAgg82
  z51 := Tryd.sizeOf82
  v51 := Tryd.zeroValue82
  t53 := Tryd.underlying123
  a53 := Tryd.isAgg123
  z53 := Tryd.sizeOf123
  v53 := Tryd.zeroValue123
  t171 := Tryd.underlying122
  a171 := Tryd.isAgg122
  z171 := Tryd.sizeOf122
  v171 := Tryd.zeroValue122
  t173 := Tryd.underlying126
  a173 := Tryd.isAgg126
  z173 := Tryd.sizeOf126
  v173 := Tryd.zeroValue126
  t212 := Tryd.underlying143
  a212 := Tryd.isAgg143
  z212 := Tryd.sizeOf143
  v212 := Tryd.zeroValue143
  t213 := Tryd.underlying144
  a213 := Tryd.isAgg144
  z213 := Tryd.sizeOf144
  t232 := Tryd.underlying151
  a232 := Tryd.isAgg151
  z232 := Tryd.sizeOf151
  v232 := Tryd.zeroValue151
  t233 := Tryd.underlying152
  a233 := Tryd.isAgg152
  z233 := Tryd.sizeOf152
  v233 := Tryd.zeroValue152
  g17 := by kernel_rfl
  g18 := by kernel_rfl
  g19 := by kernel_rfl
  i0 := by kernel_rfl
  i2 := by kernel_rfl
  i3 := by kernel_rfl
  i4 := by kernel_rfl
  i5 := by kernel_rfl
  i9 := by kernel_rfl
  i20 := by kernel_rfl
  i37 := by kernel_rfl
  i46 := by kernel_rfl
  i51 := by kernel_rfl
  i53 := by kernel_rfl
  i171 := by kernel_rfl
  i173 := by kernel_rfl
  i212 := by kernel_rfl
  i232 := by kernel_rfl
  i233 := by kernel_rfl
  m17 := by kernel_rfl
  m18 := by kernel_rfl
  m19 := by kernel_rfl }
open Go.RowKit Go.Sort Go.Lib in
/-- strconv.Itoa: "Itoa is equivalent to FormatInt(int64(i), 10).": i's DECIMAL NUMERAL ('Lib.itoa': a '-' where i is negative, then the digits), FOR EVERY int. The world behind the call: the world before it, new blocks behind the heap (the library's 'var a [24]byte'), draws. (LAID: no walk: one application.) -/
theorem Tryd.strconv_Itoa (n : Int) (h0 : -9223372036854775808 ≤ n) (h1 : n ≤ 9223372036854775807) (w : World) (htab : Lib.TabIs Tryd.prog w "internal/strconv.uint64pow10" .u64 Lib.pow10Tab) :
    Calls Tryd.prog 53 #[.int .i64 n] w fun e w' => e = .returned (.string ⟨(Lib.itoa n).toArray⟩) ∧ ∃ k os, w' = grow (w.drewN k) os := Any.strconv_Itoa Tryd.laysM171 n h0 h1 w htab
def Tryd.lays171_ren : Go.Shelf.Ren := ⟨fun | 171 => 53 | 243 => 71 | 246 => 87 | 283 => 93 | 284 => 94 | 285 => 95 | 286 => 96 | 129 => 105 | 317 => 104 | 318 => 106 | 319 => 107 | 320 => 108 | 337 => 110 | 338 => 111 | n => n, fun | 3 => 3 | 9 => 9 | 2 => 2 | 4 => 4 | 171 => 122 | 0 => 0 | 53 => 123 | 37 => 43 | 5 => 5 | 173 => 126 | 212 => 143 | 51 => 82 | 20 => 20 | 213 => 144 | 46 => 79 | 232 => 151 | 233 => 152 | n => n, fun | 17 => 3 | 18 => 4 | 19 => 5 | n => n⟩
theorem Tryd.lays171 : Go.Proofs.Lays.n171 Tryd.prog Tryd.lays171_ren := {
  mixed := by kernel_rfl
  f129 := Tryd.func105.trans (congrArg some (by kernel_rfl))
  f171 := Tryd.func53.trans (congrArg some (by kernel_rfl))
  f243 := Tryd.func71.trans (congrArg some (by kernel_rfl))
  f246 := Tryd.func87.trans (congrArg some (by kernel_rfl))
  f283 := Tryd.func93.trans (congrArg some (by kernel_rfl))
  f284 := Tryd.func94.trans (congrArg some (by kernel_rfl))
  f285 := Tryd.func95.trans (congrArg some (by kernel_rfl))
  f286 := Tryd.func96.trans (congrArg some (by kernel_rfl))
  f317 := Tryd.func104.trans (congrArg some (by kernel_rfl))
  f318 := Tryd.func106.trans (congrArg some (by kernel_rfl))
  f319 := Tryd.func107.trans (congrArg some (by kernel_rfl))
  f320 := Tryd.func108.trans (congrArg some (by kernel_rfl))
  f337 := Tryd.func110.trans (congrArg some (by kernel_rfl))
  f338 := Tryd.func111.trans (congrArg some (by kernel_rfl))
  t0 := Tryd.underlying0
  a0 := Tryd.isAgg0
  z0 := Tryd.sizeOf0
  v0 := Tryd.zeroValue0
  t2 := Tryd.underlying2
  a2 := Tryd.isAgg2
  z2 := Tryd.sizeOf2
  v2 := Tryd.zeroValue2
  t3 := Tryd.underlying3
  a3 := Tryd.isAgg3
  z3 := Tryd.sizeOf3
  v3 := Tryd.zeroValue3
  t4 := Tryd.underlying4
  a4 := Tryd.isAgg4
  z4 := Tryd.sizeOf4
  v4 := Tryd.zeroValue4
  t5 := Tryd.underlying5
  a5 := Tryd.isAgg5
  z5 := Tryd.sizeOf5
  v5 := Tryd.zeroValue5
  t9 := Tryd.underlying9
  a9 := Tryd.isAgg9
  z9 := Tryd.sizeOf9
  v9 := Tryd.zeroValue9
  t20 := Tryd.underlying20
  a20 := Tryd.isAgg20
  z20 := Tryd.sizeOf20
  v20 := Tryd.zeroValue20
  t37 := Tryd.underlying43
  a37 := Tryd.isAgg43
  z37 := Tryd.sizeOf43
  v37 := Tryd.zeroValue43
  t46 := Tryd.underlying79
  a46 := Tryd.isAgg79
  z46 := Tryd.sizeOf79
  v46 := Tryd.zeroValue79
  t51 := Tryd.underlying82
  a51 := Tryd.isAgg82
  z51 := Tryd.sizeOf82
  v51 := Tryd.zeroValue82
  t53 := Tryd.underlying123
  a53 := Tryd.isAgg123
  z53 := Tryd.sizeOf123
  v53 := Tryd.zeroValue123
  t171 := Tryd.underlying122
  a171 := Tryd.isAgg122
  z171 := Tryd.sizeOf122
  v171 := Tryd.zeroValue122
  t173 := Tryd.underlying126
  a173 := Tryd.isAgg126
  z173 := Tryd.sizeOf126
  v173 := Tryd.zeroValue126
  t212 := Tryd.underlying143
  a212 := Tryd.isAgg143
  z212 := Tryd.sizeOf143
  v212 := Tryd.zeroValue143
  t213 := Tryd.underlying144
  a213 := Tryd.isAgg144
  z213 := Tryd.sizeOf144
  t232 := Tryd.underlying151
  a232 := Tryd.isAgg151
  z232 := Tryd.sizeOf151
  v232 := Tryd.zeroValue151
  t233 := Tryd.underlying152
  a233 := Tryd.isAgg152
  z233 := Tryd.sizeOf152
  v233 := Tryd.zeroValue152
  g17 := by kernel_rfl
  g18 := by kernel_rfl
  g19 := by kernel_rfl }
open Go.RowKit Go.Sort Go.Lib in
/-- THE ROAD WITHOUT THE TABLE: 0 <= i < 100: NO PREMISE ON THE WORLD, AND THE WORLD IS AS IT WAS: a row that keeps its argument in that range need list no table ('laid = []'). (LAID: no walk: one application.) -/
theorem Tryd.strconv_Itoa_small (i : Nat) (hi : i < 100) (w : World) :
    Calls Tryd.prog 53 #[.int .i64 i] w fun e w' => e = .returned (.string ⟨(Lib.decDigits i).toArray⟩) ∧ w' = w := Any.strconv_Itoa_small Tryd.lays171 i hi w
def Tryd.lays217_ren : Go.Shelf.Ren := ⟨fun | 217 => 76 | 266 => 91 | n => n, fun | 9 => 9 | 5 => 5 | 3 => 3 | n => n, fun | n => n⟩
theorem Tryd.lays217 : Go.Proofs.Lays.n217 Tryd.prog Tryd.lays217_ren := {
  mixed := by kernel_rfl
  f217 := Tryd.func76.trans (congrArg some (by kernel_rfl))
  f266 := Tryd.func91.trans (congrArg some (by kernel_rfl))
  t3 := Tryd.underlying3
  a3 := Tryd.isAgg3
  z3 := Tryd.sizeOf3
  v3 := Tryd.zeroValue3
  t5 := Tryd.underlying5
  a5 := Tryd.isAgg5
  z5 := Tryd.sizeOf5
  v5 := Tryd.zeroValue5
  t9 := Tryd.underlying9
  a9 := Tryd.isAgg9
  z9 := Tryd.sizeOf9
  v9 := Tryd.zeroValue9 }
open Go.RowKit Go.Lib in
/-- internal/stringslite.IndexByte (what strings.IndexByte calls): IT RETURNS 'Lib.indexByte s c'; the world is as it was. (LAID: no walk: one application.) -/
theorem Tryd.stringslite_IndexByte (s : ByteArray) (c : Int) (w : World) :
    Calls Tryd.prog 76 #[.string s, .int .u8 c] w fun e w' => e = .returned (.int .i64 (Lib.indexByte s.data.toList c.toNat.toUInt8)) ∧ w' = w := Any.stringslite_IndexByte Tryd.lays217 s c w
def Tryd.lays224_ren : Go.Shelf.Ren := ⟨fun | 224 => 100 | n => n, fun | 3 => 3 | n => n, fun | n => n⟩
theorem Tryd.lays224 : Go.Proofs.Lays.n224 Tryd.prog Tryd.lays224_ren := {
  mixed := by kernel_rfl
  f224 := Tryd.func100.trans (congrArg some (by kernel_rfl))
  t3 := Tryd.underlying3
  a3 := Tryd.isAgg3
  z3 := Tryd.sizeOf3
  v3 := Tryd.zeroValue3 }
open Go.RowKit Go.Lib in
/-- internal/bytealg.Cutover: "Cutover reports the number of failures of IndexByte we should tolerate before switching over to Index. n is the number of bytes processed so far.": on amd64: (n + 16) / 8. (LAID: no walk: one application.) -/
theorem Tryd.bytealg_Cutover (n : Int) (h0 : 0 ≤ n) (h1 : n < 4611686018427387904) (w : World) :
    Calls Tryd.prog 100 #[.int .i64 n] w fun e w' => e = .returned (.int .i64 ((n + 16) / 8)) ∧ w' = w := Any.bytealg_Cutover Tryd.lays224 n h0 h1 w
def Tryd.lays314_ren : Go.Shelf.Ren := ⟨fun | 314 => 109 | n => n, fun | 9 => 9 | 51 => 82 | 3 => 3 | 4 => 4 | 5 => 5 | 46 => 79 | n => n, fun | n => n⟩
theorem Tryd.lays314 : Go.Proofs.Lays.n314 Tryd.prog Tryd.lays314_ren := {
  mixed := by kernel_rfl
  f314 := Tryd.func109.trans (congrArg some (by kernel_rfl))
  t3 := Tryd.underlying3
  a3 := Tryd.isAgg3
  z3 := Tryd.sizeOf3
  v3 := Tryd.zeroValue3
  t4 := Tryd.underlying4
  a4 := Tryd.isAgg4
  z4 := Tryd.sizeOf4
  v4 := Tryd.zeroValue4
  t5 := Tryd.underlying5
  a5 := Tryd.isAgg5
  z5 := Tryd.sizeOf5
  v5 := Tryd.zeroValue5
  t9 := Tryd.underlying9
  a9 := Tryd.isAgg9
  z9 := Tryd.sizeOf9
  v9 := Tryd.zeroValue9
  t46 := Tryd.underlying79
  a46 := Tryd.isAgg79
  z46 := Tryd.sizeOf79
  v46 := Tryd.zeroValue79
  t51 := Tryd.underlying82
  a51 := Tryd.isAgg82
  z51 := Tryd.sizeOf82
  v51 := Tryd.zeroValue82 }
open Go.RowKit Go.Lib in
/-- hashStr: "returns the hash and the appropriate multiplicative factor for use in Rabin-Karp algorithm": THE HASH OF ALL OF sep, AND 16777619 ^ len(sep), both in uint32. (LAID: no walk: one application.) -/
theorem Tryd.bytealg_hashStr (sep : ByteArray) (hs : sep.size < 4294967281) (w : World) :
    Calls Tryd.prog 109 #[.string sep] w fun e w' => e = .returned (.tuple #[.int .u32 (RK.H sep.data.toList % 4294967296), .int .u32 (16777619 ^ sep.size % 4294967296)]) ∧ w' = w := Any.bytealg_hashStr Tryd.lays314 sep hs w
def Tryd.lays267_ren : Go.Shelf.Ren := ⟨fun | 267 => 101 | 314 => 109 | n => n, fun | 9 => 9 | 3 => 3 | 146 => 146 | 51 => 82 | 4 => 4 | 5 => 5 | 46 => 79 | n => n, fun | n => n⟩
theorem Tryd.lays267 : Go.Proofs.Lays.n267 Tryd.prog Tryd.lays267_ren := {
  mixed := by kernel_rfl
  f267 := Tryd.func101.trans (congrArg some (by kernel_rfl))
  f314 := Tryd.func109.trans (congrArg some (by kernel_rfl))
  t3 := Tryd.underlying3
  a3 := Tryd.isAgg3
  z3 := Tryd.sizeOf3
  v3 := Tryd.zeroValue3
  t4 := Tryd.underlying4
  a4 := Tryd.isAgg4
  z4 := Tryd.sizeOf4
  v4 := Tryd.zeroValue4
  t5 := Tryd.underlying5
  a5 := Tryd.isAgg5
  z5 := Tryd.sizeOf5
  v5 := Tryd.zeroValue5
  t9 := Tryd.underlying9
  a9 := Tryd.isAgg9
  z9 := Tryd.sizeOf9
  v9 := Tryd.zeroValue9
  t46 := Tryd.underlying79
  a46 := Tryd.isAgg79
  z46 := Tryd.sizeOf79
  v46 := Tryd.zeroValue79
  t51 := Tryd.underlying82
  a51 := Tryd.isAgg82
  z51 := Tryd.sizeOf82
  v51 := Tryd.zeroValue82
  t146 := Tryd.underlying146
  a146 := Tryd.isAgg146
  z146 := Tryd.sizeOf146
  v146 := Tryd.zeroValue146 }
open Go.RowKit Go.Lib in
theorem Tryd.bytealg_IndexRabinKarp (s sep : ByteArray) (h1 : 1 ≤ sep.size) (h2 : sep.size ≤ s.size) (hs : s.size < 4294967281) (w : World) :
    Calls Tryd.prog 101 #[.string s, .string sep] w fun e w' => e = .returned (.int .i64 (Lib.index s.data.toList sep.data.toList)) ∧ w' = w := Any.bytealg_IndexRabinKarp Tryd.lays267 s sep h1 h2 hs w
def Tryd.lays219_ren : Go.Shelf.Ren := ⟨fun | 219 => 90 | 217 => 76 | 225 => 99 | 224 => 100 | 267 => 101 | 266 => 91 | 314 => 109 | n => n, fun | 9 => 9 | 3 => 3 | 4 => 4 | 5 => 5 | 46 => 79 | 146 => 146 | 51 => 82 | n => n, fun | 1 => 2 | n => n⟩
theorem Tryd.lays219 : Go.Proofs.Lays.n219 Tryd.prog Tryd.lays219_ren := {
  mixed := by kernel_rfl
  f217 := Tryd.func76.trans (congrArg some (by kernel_rfl))
  f219 := Tryd.func90.trans (congrArg some (by kernel_rfl))
  f224 := Tryd.func100.trans (congrArg some (by kernel_rfl))
  f225 := Tryd.func99.trans (congrArg some (by kernel_rfl))
  f266 := Tryd.func91.trans (congrArg some (by kernel_rfl))
  f267 := Tryd.func101.trans (congrArg some (by kernel_rfl))
  f314 := Tryd.func109.trans (congrArg some (by kernel_rfl))
  t3 := Tryd.underlying3
  a3 := Tryd.isAgg3
  z3 := Tryd.sizeOf3
  v3 := Tryd.zeroValue3
  t4 := Tryd.underlying4
  a4 := Tryd.isAgg4
  z4 := Tryd.sizeOf4
  v4 := Tryd.zeroValue4
  t5 := Tryd.underlying5
  a5 := Tryd.isAgg5
  z5 := Tryd.sizeOf5
  v5 := Tryd.zeroValue5
  t9 := Tryd.underlying9
  a9 := Tryd.isAgg9
  z9 := Tryd.sizeOf9
  v9 := Tryd.zeroValue9
  t46 := Tryd.underlying79
  a46 := Tryd.isAgg79
  z46 := Tryd.sizeOf79
  v46 := Tryd.zeroValue79
  t51 := Tryd.underlying82
  a51 := Tryd.isAgg82
  z51 := Tryd.sizeOf82
  v51 := Tryd.zeroValue82
  t146 := Tryd.underlying146
  a146 := Tryd.isAgg146
  z146 := Tryd.sizeOf146
  v146 := Tryd.zeroValue146
  g1 := by kernel_rfl }
open Go.RowKit Go.Lib in
/-- internal/stringslite.Index (what strings.Index calls) AT A substr OF ONE BYTE c: IT RETURNS 'Lib.indexByte s c'; the world is as it was. (LAID: no walk: one application.) -/
theorem Tryd.stringslite_Index_one (s : ByteArray) (c : UInt8) (w : World) :
    Calls Tryd.prog 90 #[.string s, .string ⟨#[c]⟩] w fun e w' => e = .returned (.int .i64 (Lib.indexByte s.data.toList c)) ∧ w' = w := Any.stringslite_Index_one Tryd.lays219 s c w
open Go.RowKit Go.Lib in
/-- internal/stringslite.Index (what strings.Index calls) AT A substr OF WHATEVER LENGTH: IT RETURNS 'Lib.index s substr'; the world is as it was. 'm': what internal/bytealg.MaxLen holds: whatever. (LAID: no walk: one application.) -/
theorem Tryd.stringslite_Index (s sub : ByteArray) (m : Int) (w : World) (hs : s.size < 4294967281) (hm : w.cell? ⟨2, 0, none⟩ = some (.int .i64 m)) :
    Calls Tryd.prog 90 #[.string s, .string sub] w fun e w' => e = .returned (.int .i64 (Lib.index s.data.toList sub.data.toList)) ∧ w' = w := Any.stringslite_Index Tryd.lays219 s sub m w hs hm
def Tryd.lays143_ren : Go.Shelf.Ren := ⟨fun | 143 => 75 | 219 => 90 | 217 => 76 | 225 => 99 | 224 => 100 | 267 => 101 | 266 => 91 | 314 => 109 | n => n, fun | 9 => 9 | 3 => 3 | 4 => 4 | 5 => 5 | 46 => 79 | 146 => 146 | 51 => 82 | n => n, fun | 1 => 2 | n => n⟩
theorem Tryd.lays143 : Go.Proofs.Lays.n143 Tryd.prog Tryd.lays143_ren := {
  mixed := by kernel_rfl
  f143 := Tryd.func75.trans (congrArg some (by kernel_rfl))
  f217 := Tryd.func76.trans (congrArg some (by kernel_rfl))
  f219 := Tryd.func90.trans (congrArg some (by kernel_rfl))
  f224 := Tryd.func100.trans (congrArg some (by kernel_rfl))
  f225 := Tryd.func99.trans (congrArg some (by kernel_rfl))
  f266 := Tryd.func91.trans (congrArg some (by kernel_rfl))
  f267 := Tryd.func101.trans (congrArg some (by kernel_rfl))
  f314 := Tryd.func109.trans (congrArg some (by kernel_rfl))
  t3 := Tryd.underlying3
  a3 := Tryd.isAgg3
  z3 := Tryd.sizeOf3
  v3 := Tryd.zeroValue3
  t4 := Tryd.underlying4
  a4 := Tryd.isAgg4
  z4 := Tryd.sizeOf4
  v4 := Tryd.zeroValue4
  t5 := Tryd.underlying5
  a5 := Tryd.isAgg5
  z5 := Tryd.sizeOf5
  v5 := Tryd.zeroValue5
  t9 := Tryd.underlying9
  a9 := Tryd.isAgg9
  z9 := Tryd.sizeOf9
  v9 := Tryd.zeroValue9
  t46 := Tryd.underlying79
  a46 := Tryd.isAgg79
  z46 := Tryd.sizeOf79
  v46 := Tryd.zeroValue79
  t51 := Tryd.underlying82
  a51 := Tryd.isAgg82
  z51 := Tryd.sizeOf82
  v51 := Tryd.zeroValue82
  t146 := Tryd.underlying146
  a146 := Tryd.isAgg146
  z146 := Tryd.sizeOf146
  v146 := Tryd.zeroValue146
  g1 := by kernel_rfl }
open Go.RowKit Go.Lib in
/-- strings.Index: "Index returns the index of the first instance of substr in s, or -1 if substr is not present in s.": AT A substr OF ONE BYTE c: IT RETURNS 'Lib.indexByte s c'; the world is as it was. (LAID: no walk: one application.) -/
theorem Tryd.strings_Index_one (s : ByteArray) (c : UInt8) (w : World) :
    Calls Tryd.prog 75 #[.string s, .string ⟨#[c]⟩] w fun e w' => e = .returned (.int .i64 (Lib.indexByte s.data.toList c)) ∧ w' = w := Any.strings_Index_one Tryd.lays143 s c w
open Go.RowKit Go.Lib in
/-- strings.Index: "Index returns the index of the first instance of substr in s, or -1 if substr is not present in s.": IT RETURNS 'Lib.index s substr'; the world is as it was. (LAID: no walk: one application.) -/
theorem Tryd.strings_Index (s sub : ByteArray) (m : Int) (w : World) (hs : s.size < 4294967281) (hm : w.cell? ⟨2, 0, none⟩ = some (.int .i64 m)) :
    Calls Tryd.prog 75 #[.string s, .string sub] w fun e w' => e = .returned (.int .i64 (Lib.index s.data.toList sub.data.toList)) ∧ w' = w := Any.strings_Index Tryd.lays143 s sub m w hs hm
def Tryd.lays144_ren : Go.Shelf.Ren := ⟨fun | 144 => 64 | 143 => 75 | 219 => 90 | 217 => 76 | 225 => 99 | 224 => 100 | 267 => 101 | 266 => 91 | 314 => 109 | n => n, fun | 9 => 9 | 4 => 4 | 3 => 3 | 5 => 5 | 46 => 79 | 146 => 146 | 51 => 82 | n => n, fun | 1 => 2 | n => n⟩
theorem Tryd.lays144 : Go.Proofs.Lays.n144 Tryd.prog Tryd.lays144_ren := {
  mixed := by kernel_rfl
  f143 := Tryd.func75.trans (congrArg some (by kernel_rfl))
  f144 := Tryd.func64.trans (congrArg some (by kernel_rfl))
  f217 := Tryd.func76.trans (congrArg some (by kernel_rfl))
  f219 := Tryd.func90.trans (congrArg some (by kernel_rfl))
  f224 := Tryd.func100.trans (congrArg some (by kernel_rfl))
  f225 := Tryd.func99.trans (congrArg some (by kernel_rfl))
  f266 := Tryd.func91.trans (congrArg some (by kernel_rfl))
  f267 := Tryd.func101.trans (congrArg some (by kernel_rfl))
  f314 := Tryd.func109.trans (congrArg some (by kernel_rfl))
  t3 := Tryd.underlying3
  a3 := Tryd.isAgg3
  z3 := Tryd.sizeOf3
  v3 := Tryd.zeroValue3
  t4 := Tryd.underlying4
  a4 := Tryd.isAgg4
  z4 := Tryd.sizeOf4
  v4 := Tryd.zeroValue4
  t5 := Tryd.underlying5
  a5 := Tryd.isAgg5
  z5 := Tryd.sizeOf5
  v5 := Tryd.zeroValue5
  t9 := Tryd.underlying9
  a9 := Tryd.isAgg9
  z9 := Tryd.sizeOf9
  v9 := Tryd.zeroValue9
  t46 := Tryd.underlying79
  a46 := Tryd.isAgg79
  z46 := Tryd.sizeOf79
  v46 := Tryd.zeroValue79
  t51 := Tryd.underlying82
  a51 := Tryd.isAgg82
  z51 := Tryd.sizeOf82
  v51 := Tryd.zeroValue82
  t146 := Tryd.underlying146
  a146 := Tryd.isAgg146
  z146 := Tryd.sizeOf146
  v146 := Tryd.zeroValue146
  g1 := by kernel_rfl }
open Go.RowKit Go.Lib in
/-- strings.Contains: "Contains reports whether substr is within s.": AT A substr OF ONE BYTE c: IT RETURNS 'decide (0 ≤ Lib.indexByte s c)'; the world is as it was. (LAID: no walk: one application.) -/
theorem Tryd.strings_Contains_one (s : ByteArray) (c : UInt8) (w : World) :
    Calls Tryd.prog 64 #[.string s, .string ⟨#[c]⟩] w fun e w' => e = .returned (.bool (decide (0 ≤ Lib.indexByte s.data.toList c))) ∧ w' = w := Any.strings_Contains_one Tryd.lays144 s c w
open Go.RowKit Go.Lib in
/-- strings.Contains: "Contains reports whether substr is within s.": IT RETURNS 'Lib.contains s substr'; the world is as it was. (LAID: no walk: one application.) -/
theorem Tryd.strings_Contains (s sub : ByteArray) (m : Int) (w : World) (hs : s.size < 4294967281) (hm : w.cell? ⟨2, 0, none⟩ = some (.int .i64 m)) :
    Calls Tryd.prog 64 #[.string s, .string sub] w fun e w' => e = .returned (.bool (Lib.contains s.data.toList sub.data.toList)) ∧ w' = w := Any.strings_Contains Tryd.lays144 s sub m w hs hm
def Tryd.laysM219_ren : Go.Shelf.Ren := ⟨fun | 219 => 90 | 217 => 76 | 225 => 99 | 224 => 100 | 267 => 101 | 266 => 91 | 314 => 109 | n => n, fun | 9 => 9 | 3 => 3 | 4 => 4 | 5 => 5 | 46 => 79 | 146 => 146 | 51 => 82 | n => n, fun | 1 => 2 | n => n⟩
theorem Tryd.laysM219 : Go.Proofs.LaysM.n219 Tryd.prog Tryd.laysM219_ren := {
  mixed := by kernel_rfl
  f217 := Tryd.func76.trans (congrArg some (by kernel_rfl))
  f219 := Tryd.func90.trans (congrArg some (by kernel_rfl))
  f224 := Tryd.func100.trans (congrArg some (by kernel_rfl))
  f225 := Tryd.func99.trans (congrArg some (by kernel_rfl))
  f266 := Tryd.func91.trans (congrArg some (by kernel_rfl))
  f267 := Tryd.func101.trans (congrArg some (by kernel_rfl))
  f314 := Tryd.func109.trans (congrArg some (by kernel_rfl))
  t3 := Tryd.underlying3
  a3 := Tryd.isAgg3
  z3 := Tryd.sizeOf3
  v3 := Tryd.zeroValue3
  t4 := Tryd.underlying4
  a4 := Tryd.isAgg4
  z4 := Tryd.sizeOf4
  v4 := Tryd.zeroValue4
  t5 := Tryd.underlying5
  a5 := Tryd.isAgg5
  z5 := Tryd.sizeOf5
  v5 := Tryd.zeroValue5
  t9 := Tryd.underlying9
  a9 := Tryd.isAgg9
  z9 := Tryd.sizeOf9
  v9 := Tryd.zeroValue9
  t46 := Tryd.underlying79
  a46 := Tryd.isAgg79
  z46 := Tryd.sizeOf79
  v46 := Tryd.zeroValue79
  t51 := Tryd.underlying82
  a51 := Tryd.isAgg82
  z51 := Tryd.sizeOf82
  v51 := Tryd.zeroValue82
  t146 := Tryd.underlying146
  a146 := Tryd.isAgg146
  z146 := Tryd.sizeOf146
  v146 := Tryd.zeroValue146
  g1 := by kernel_rfl
  i3 := by kernel_rfl
  i4 := by kernel_rfl
  i5 := by kernel_rfl
  i9 := by kernel_rfl
  i46 := by kernel_rfl
  i51 := by kernel_rfl
  i146 := by kernel_rfl
  m1 := by kernel_rfl
  s1_3 := fun w h => Go.Proofs.cell_of_shapedOpen_int (zero := #[.int .i64 0]) (t := 3) h (of_decide_eq_true (by kernel_rfl)) (by kernel_rfl) rfl (by kernel_rfl) (by kernel_rfl) Tryd.underlying3 }
open Go.RowKit Go.Lib in
theorem Tryd.stringslite_Index_shaped (s sub : ByteArray) (w : World) (h : w.ShapedOpen Tryd.prog) (hs : s.size < 4294967281) :
    Calls Tryd.prog 90 #[.string s, .string sub] w fun e w' => e = .returned (.int .i64 (Lib.index s.data.toList sub.data.toList)) ∧ w' = w := Any.stringslite_Index_shaped Tryd.laysM219 s sub w h hs
def Tryd.laysM143_ren : Go.Shelf.Ren := ⟨fun | 143 => 75 | 219 => 90 | 217 => 76 | 225 => 99 | 224 => 100 | 267 => 101 | 266 => 91 | 314 => 109 | n => n, fun | 9 => 9 | 3 => 3 | 4 => 4 | 5 => 5 | 46 => 79 | 146 => 146 | 51 => 82 | n => n, fun | 1 => 2 | n => n⟩
theorem Tryd.laysM143 : Go.Proofs.LaysM.n143 Tryd.prog Tryd.laysM143_ren := {
  mixed := by kernel_rfl
  f143 := Tryd.func75.trans (congrArg some (by kernel_rfl))
  f217 := Tryd.func76.trans (congrArg some (by kernel_rfl))
  f219 := Tryd.func90.trans (congrArg some (by kernel_rfl))
  f224 := Tryd.func100.trans (congrArg some (by kernel_rfl))
  f225 := Tryd.func99.trans (congrArg some (by kernel_rfl))
  f266 := Tryd.func91.trans (congrArg some (by kernel_rfl))
  f267 := Tryd.func101.trans (congrArg some (by kernel_rfl))
  f314 := Tryd.func109.trans (congrArg some (by kernel_rfl))
  t3 := Tryd.underlying3
  a3 := Tryd.isAgg3
  z3 := Tryd.sizeOf3
  v3 := Tryd.zeroValue3
  t4 := Tryd.underlying4
  a4 := Tryd.isAgg4
  z4 := Tryd.sizeOf4
  v4 := Tryd.zeroValue4
  t5 := Tryd.underlying5
  a5 := Tryd.isAgg5
  z5 := Tryd.sizeOf5
  v5 := Tryd.zeroValue5
  t9 := Tryd.underlying9
  a9 := Tryd.isAgg9
  z9 := Tryd.sizeOf9
  v9 := Tryd.zeroValue9
  t46 := Tryd.underlying79
  a46 := Tryd.isAgg79
  z46 := Tryd.sizeOf79
  v46 := Tryd.zeroValue79
  t51 := Tryd.underlying82
  a51 := Tryd.isAgg82
  z51 := Tryd.sizeOf82
  v51 := Tryd.zeroValue82
  t146 := Tryd.underlying146
  a146 := Tryd.isAgg146
  z146 := Tryd.sizeOf146
  v146 := Tryd.zeroValue146
  g1 := by kernel_rfl
  i3 := by kernel_rfl
  i4 := by kernel_rfl
  i5 := by kernel_rfl
  i9 := by kernel_rfl
  i46 := by kernel_rfl
  i51 := by kernel_rfl
  i146 := by kernel_rfl
  m1 := by kernel_rfl
  s1_3 := fun w h => Go.Proofs.cell_of_shapedOpen_int (zero := #[.int .i64 0]) (t := 3) h (of_decide_eq_true (by kernel_rfl)) (by kernel_rfl) rfl (by kernel_rfl) (by kernel_rfl) Tryd.underlying3 }
open Go.RowKit Go.Lib in
theorem Tryd.strings_Index_shaped (s sub : ByteArray) (w : World) (h : w.ShapedOpen Tryd.prog) (hs : s.size < 4294967281) :
    Calls Tryd.prog 75 #[.string s, .string sub] w fun e w' => e = .returned (.int .i64 (Lib.index s.data.toList sub.data.toList)) ∧ w' = w := Any.strings_Index_shaped Tryd.laysM143 s sub w h hs
def Tryd.laysM144_ren : Go.Shelf.Ren := ⟨fun | 144 => 64 | 143 => 75 | 219 => 90 | 217 => 76 | 225 => 99 | 224 => 100 | 267 => 101 | 266 => 91 | 314 => 109 | n => n, fun | 9 => 9 | 4 => 4 | 3 => 3 | 5 => 5 | 46 => 79 | 146 => 146 | 51 => 82 | n => n, fun | 1 => 2 | n => n⟩
theorem Tryd.laysM144 : Go.Proofs.LaysM.n144 Tryd.prog Tryd.laysM144_ren := {
  mixed := by kernel_rfl
  f143 := Tryd.func75.trans (congrArg some (by kernel_rfl))
  f144 := Tryd.func64.trans (congrArg some (by kernel_rfl))
  f217 := Tryd.func76.trans (congrArg some (by kernel_rfl))
  f219 := Tryd.func90.trans (congrArg some (by kernel_rfl))
  f224 := Tryd.func100.trans (congrArg some (by kernel_rfl))
  f225 := Tryd.func99.trans (congrArg some (by kernel_rfl))
  f266 := Tryd.func91.trans (congrArg some (by kernel_rfl))
  f267 := Tryd.func101.trans (congrArg some (by kernel_rfl))
  f314 := Tryd.func109.trans (congrArg some (by kernel_rfl))
  t3 := Tryd.underlying3
  a3 := Tryd.isAgg3
  z3 := Tryd.sizeOf3
  v3 := Tryd.zeroValue3
  t4 := Tryd.underlying4
  a4 := Tryd.isAgg4
  z4 := Tryd.sizeOf4
  v4 := Tryd.zeroValue4
  t5 := Tryd.underlying5
  a5 := Tryd.isAgg5
  z5 := Tryd.sizeOf5
  v5 := Tryd.zeroValue5
  t9 := Tryd.underlying9
  a9 := Tryd.isAgg9
  z9 := Tryd.sizeOf9
  v9 := Tryd.zeroValue9
  t46 := Tryd.underlying79
  a46 := Tryd.isAgg79
  z46 := Tryd.sizeOf79
  v46 := Tryd.zeroValue79
  t51 := Tryd.underlying82
  a51 := Tryd.isAgg82
  z51 := Tryd.sizeOf82
  v51 := Tryd.zeroValue82
  t146 := Tryd.underlying146
  a146 := Tryd.isAgg146
  z146 := Tryd.sizeOf146
  v146 := Tryd.zeroValue146
  g1 := by kernel_rfl
  i3 := by kernel_rfl
  i4 := by kernel_rfl
  i5 := by kernel_rfl
  i9 := by kernel_rfl
  i46 := by kernel_rfl
  i51 := by kernel_rfl
  i146 := by kernel_rfl
  m1 := by kernel_rfl
  s1_3 := fun w h => Go.Proofs.cell_of_shapedOpen_int (zero := #[.int .i64 0]) (t := 3) h (of_decide_eq_true (by kernel_rfl)) (by kernel_rfl) rfl (by kernel_rfl) (by kernel_rfl) Tryd.underlying3 }
open Go.RowKit Go.Lib in
theorem Tryd.strings_Contains_shaped (s sub : ByteArray) (w : World) (h : w.ShapedOpen Tryd.prog) (hs : s.size < 4294967281) :
    Calls Tryd.prog 64 #[.string s, .string sub] w fun e w' => e = .returned (.bool (Lib.contains s.data.toList sub.data.toList)) ∧ w' = w := Any.strings_Contains_shaped Tryd.laysM144 s sub w h hs
def Tryd.lays157_ren : Go.Shelf.Ren := ⟨fun | 157 => 70 | 229 => 85 | 199 => 86 | 261 => 92 | 311 => 102 | 312 => 103 | n => n, fun | 9 => 9 | 31 => 76 | 3 => 3 | 5 => 5 | 4 => 4 | 119 => 112 | 0 => 0 | 40 => 114 | 152 => 117 | 21 => 21 | 154 => 119 | 51 => 82 | 141 => 121 | 196 => 134 | 193 => 131 | 198 => 137 | 49 => 135 | 194 => 132 | 201 => 140 | 226 => 148 | 46 => 79 | 227 => 149 | n => n, fun | 0 => 0 | 6 => 1 | n => n⟩
theorem Tryd.lays157 : Go.Proofs.Lays.n157 Tryd.prog Tryd.lays157_ren := {
  mixed := by kernel_rfl
  f157 := Tryd.func70.trans (congrArg some (by kernel_rfl))
  f199 := Tryd.func86.trans (congrArg some (by kernel_rfl))
  f229 := Tryd.func85.trans (congrArg some (by kernel_rfl))
  f261 := Tryd.func92.trans (congrArg some (by kernel_rfl))
  f311 := Tryd.func102.trans (congrArg some (by kernel_rfl))
  f312 := Tryd.func103.trans (congrArg some (by kernel_rfl))
  t0 := Tryd.underlying0
  a0 := Tryd.isAgg0
  z0 := Tryd.sizeOf0
  v0 := Tryd.zeroValue0
  t3 := Tryd.underlying3
  a3 := Tryd.isAgg3
  z3 := Tryd.sizeOf3
  v3 := Tryd.zeroValue3
  t4 := Tryd.underlying4
  a4 := Tryd.isAgg4
  z4 := Tryd.sizeOf4
  v4 := Tryd.zeroValue4
  t5 := Tryd.underlying5
  a5 := Tryd.isAgg5
  z5 := Tryd.sizeOf5
  v5 := Tryd.zeroValue5
  t9 := Tryd.underlying9
  a9 := Tryd.isAgg9
  z9 := Tryd.sizeOf9
  v9 := Tryd.zeroValue9
  t21 := Tryd.underlying21
  a21 := Tryd.isAgg21
  z21 := Tryd.sizeOf21
  v21 := Tryd.zeroValue21
  t31 := Tryd.underlying76
  a31 := Tryd.isAgg76
  z31 := Tryd.sizeOf76
  v31 := Tryd.zeroValue76
  t40 := Tryd.underlying114
  a40 := Tryd.isAgg114
  z40 := Tryd.sizeOf114
  v40 := Tryd.zeroValue114
  t46 := Tryd.underlying79
  a46 := Tryd.isAgg79
  z46 := Tryd.sizeOf79
  v46 := Tryd.zeroValue79
  t49 := Tryd.underlying135
  a49 := Tryd.isAgg135
  z49 := Tryd.sizeOf135
  v49 := Tryd.zeroValue135
  t51 := Tryd.underlying82
  a51 := Tryd.isAgg82
  z51 := Tryd.sizeOf82
  v51 := Tryd.zeroValue82
  t119 := Tryd.underlying112
  a119 := Tryd.isAgg112
  z119 := Tryd.sizeOf112
  t141 := Tryd.underlying121
  a141 := Tryd.isAgg121
  z141 := Tryd.sizeOf121
  v141 := Tryd.zeroValue121
  t152 := Tryd.underlying117
  a152 := Tryd.isAgg117
  z152 := Tryd.sizeOf117
  v152 := Tryd.zeroValue117
  t154 := Tryd.underlying119
  a154 := Tryd.isAgg119
  z154 := Tryd.sizeOf119
  v154 := Tryd.zeroValue119
  t193 := Tryd.underlying131
  a193 := Tryd.isAgg131
  z193 := Tryd.sizeOf131
  v193 := Tryd.zeroValue131
  t194 := Tryd.underlying132
  a194 := Tryd.isAgg132
  z194 := Tryd.sizeOf132
  v194 := Tryd.zeroValue132
  t196 := Tryd.underlying134
  a196 := Tryd.isAgg134
  z196 := Tryd.sizeOf134
  v196 := Tryd.zeroValue134
  t198 := Tryd.underlying137
  a198 := Tryd.isAgg137
  z198 := Tryd.sizeOf137
  v198 := Tryd.zeroValue137
  t201 := Tryd.underlying140
  a201 := Tryd.isAgg140
  z201 := Tryd.sizeOf140
  v201 := Tryd.zeroValue140
  t226 := Tryd.underlying148
  a226 := Tryd.isAgg148
  z226 := Tryd.sizeOf148
  v226 := Tryd.zeroValue148
  t227 := Tryd.underlying149
  a227 := Tryd.isAgg149
  z227 := Tryd.sizeOf149
  v227 := Tryd.zeroValue149
  g0 := by kernel_rfl
  g6 := by kernel_rfl }
open Go.RowKit Go.Lib in
/-- strings.Fields, the table by 'Lib.TabIs' (as strings.TrimSpace's contract). 'hg': the table's number, by its name: at a dump 'by kernel_rfl'. (LAID: no walk: one application.) -/
theorem Tryd.strings_Fields (s : ByteArray) (w : World) (hs : s.size < 4294967281) (hascii : ∀ (j : Nat) b, s.data.toList[j]? = some b → b.toNat < 128) (htab : Lib.TabIs Tryd.prog w "strings.asciiSpace" .u8 Lib.asciiSpaceTab) :
    Calls Tryd.prog 70 #[.string s] w fun e w' =>
      e = .returned (.slice (some ⟨w.heap.size, 0, none⟩) (Lib.fields s.data.toList).length (Lib.fields s.data.toList).length) ∧ w' = w.alloc (.cells ((Lib.fields s.data.toList).map fun l => Value.string ⟨l.toArray⟩).toArray 9) := Any.strings_Fields Tryd.lays157 (by kernel_rfl) (by kernel_rfl) s w hs hascii htab
def Tryd.laysM157_ren : Go.Shelf.Ren := ⟨fun | 157 => 70 | 229 => 85 | 199 => 86 | 261 => 92 | 311 => 102 | 312 => 103 | n => n, fun | 9 => 9 | 31 => 76 | 3 => 3 | 5 => 5 | 4 => 4 | 119 => 112 | 0 => 0 | 40 => 114 | 152 => 117 | 21 => 21 | 154 => 119 | 51 => 82 | 141 => 121 | 196 => 134 | 193 => 131 | 198 => 137 | 49 => 135 | 194 => 132 | 201 => 140 | 226 => 148 | 46 => 79 | 227 => 149 | n => n, fun | 0 => 0 | 6 => 1 | n => n⟩
theorem Tryd.laysM157 : Go.Proofs.LaysM.n157 Tryd.prog Tryd.laysM157_ren := {
  mixed := by kernel_rfl
  f157 := Tryd.func70.trans (congrArg some (by kernel_rfl))
  f199 := Tryd.func86.trans (congrArg some (by kernel_rfl))
  f229 := Tryd.func85.trans (congrArg some (by kernel_rfl))
  f261 := Tryd.func92.trans (congrArg some (by kernel_rfl))
  f311 := Tryd.func102.trans (congrArg some (by kernel_rfl))
  f312 := Tryd.func103.trans (congrArg some (by kernel_rfl))
  t0 := Tryd.underlying0
  a0 := Tryd.isAgg0
  z0 := Tryd.sizeOf0
  v0 := Tryd.zeroValue0
  t3 := Tryd.underlying3
  a3 := Tryd.isAgg3
  z3 := Tryd.sizeOf3
  v3 := Tryd.zeroValue3
  t4 := Tryd.underlying4
  a4 := Tryd.isAgg4
  z4 := Tryd.sizeOf4
  v4 := Tryd.zeroValue4
  t5 := Tryd.underlying5
  a5 := Tryd.isAgg5
  z5 := Tryd.sizeOf5
  v5 := Tryd.zeroValue5
  t9 := Tryd.underlying9
  a9 := Tryd.isAgg9
  z9 := Tryd.sizeOf9
  v9 := Tryd.zeroValue9
  t21 := Tryd.underlying21
  a21 := Tryd.isAgg21
  z21 := Tryd.sizeOf21
  v21 := Tryd.zeroValue21
  t31 := Tryd.underlying76
  a31 := Tryd.isAgg76
  z31 := Tryd.sizeOf76
  v31 := Tryd.zeroValue76
  t40 := Tryd.underlying114
  a40 := Tryd.isAgg114
  z40 := Tryd.sizeOf114
  v40 := Tryd.zeroValue114
  t46 := Tryd.underlying79
  a46 := Tryd.isAgg79
  z46 := Tryd.sizeOf79
  v46 := Tryd.zeroValue79
  t49 := Tryd.underlying135
  a49 := Tryd.isAgg135
  z49 := Tryd.sizeOf135
  v49 := Tryd.zeroValue135
  t51 := Tryd.underlying82
  a51 := Tryd.isAgg82
  z51 := Tryd.sizeOf82
  v51 := Tryd.zeroValue82
  t119 := Tryd.underlying112
  a119 := Tryd.isAgg112
  z119 := Tryd.sizeOf112
  t141 := Tryd.underlying121
  a141 := Tryd.isAgg121
  z141 := Tryd.sizeOf121
  v141 := Tryd.zeroValue121
  t152 := Tryd.underlying117
  a152 := Tryd.isAgg117
  z152 := Tryd.sizeOf117
  v152 := Tryd.zeroValue117
  t154 := Tryd.underlying119
  a154 := Tryd.isAgg119
  z154 := Tryd.sizeOf119
  v154 := Tryd.zeroValue119
  t193 := Tryd.underlying131
  a193 := Tryd.isAgg131
  z193 := Tryd.sizeOf131
  v193 := Tryd.zeroValue131
  t194 := Tryd.underlying132
  a194 := Tryd.isAgg132
  z194 := Tryd.sizeOf132
  v194 := Tryd.zeroValue132
  t196 := Tryd.underlying134
  a196 := Tryd.isAgg134
  z196 := Tryd.sizeOf134
  v196 := Tryd.zeroValue134
  t198 := Tryd.underlying137
  a198 := Tryd.isAgg137
  z198 := Tryd.sizeOf137
  v198 := Tryd.zeroValue137
  t201 := Tryd.underlying140
  a201 := Tryd.isAgg140
  z201 := Tryd.sizeOf140
  v201 := Tryd.zeroValue140
  t226 := Tryd.underlying148
  a226 := Tryd.isAgg148
  z226 := Tryd.sizeOf148
  v226 := Tryd.zeroValue148
  t227 := Tryd.underlying149
  a227 := Tryd.isAgg149
  z227 := Tryd.sizeOf149
  v227 := Tryd.zeroValue149
  g0 := by kernel_rfl
  g6 := by kernel_rfl
  i0 := by kernel_rfl
  i3 := by kernel_rfl
  i4 := by kernel_rfl
  i5 := by kernel_rfl
  i9 := by kernel_rfl
  i21 := by kernel_rfl
  i31 := by kernel_rfl
  i40 := by kernel_rfl
  i46 := by kernel_rfl
  i49 := by kernel_rfl
  i51 := by kernel_rfl
  i141 := by kernel_rfl
  i152 := by kernel_rfl
  i154 := by kernel_rfl
  i193 := by kernel_rfl
  i194 := by kernel_rfl
  i196 := by kernel_rfl
  i198 := by kernel_rfl
  i201 := by kernel_rfl
  i226 := by kernel_rfl
  i227 := by kernel_rfl
  m0 := by kernel_rfl
  m6 := by kernel_rfl }
open Go.RowKit Go.Lib in
/-- strings.Fields on ASCII bytes. (The table: 'Lib.TabIs', as strings.TrimSpace's contract asks it.) (LAID: no walk: one application.) -/
theorem Tryd.strings_Fields_laid (s : ByteArray) (w : World) (hs : s.size < 4294967281) (hascii : ∀ (j : Nat) b, s.data.toList[j]? = some b → b.toNat < 128) (htab : Lib.TabIs Tryd.prog w "strings.asciiSpace" .u8 Lib.asciiSpaceTab) :
    Calls Tryd.prog 70 #[.string s] w fun e w' =>
      e = .returned (.slice (some ⟨w.heap.size, 0, none⟩) (Lib.fields s.data.toList).length (Lib.fields s.data.toList).length) ∧ w' = w.alloc (.cells ((Lib.fields s.data.toList).map fun l => Value.string ⟨l.toArray⟩).toArray 9) := Any.strings_Fields_laid Tryd.laysM157 s w hs hascii htab
def Tryd.lays199_ren : Go.Shelf.Ren := ⟨fun | 199 => 86 | 261 => 92 | 311 => 102 | 312 => 103 | n => n, fun | 21 => 21 | 4 => 4 | 51 => 82 | 141 => 121 | 0 => 0 | 196 => 134 | 193 => 131 | 3 => 3 | 198 => 137 | 49 => 135 | 194 => 132 | 201 => 140 | 226 => 148 | 46 => 79 | 227 => 149 | n => n, fun | 6 => 1 | n => n⟩
theorem Tryd.lays199 : Go.Proofs.Lays.n199 Tryd.prog Tryd.lays199_ren := {
  mixed := by kernel_rfl
  f199 := Tryd.func86.trans (congrArg some (by kernel_rfl))
  f261 := Tryd.func92.trans (congrArg some (by kernel_rfl))
  f311 := Tryd.func102.trans (congrArg some (by kernel_rfl))
  f312 := Tryd.func103.trans (congrArg some (by kernel_rfl))
  t0 := Tryd.underlying0
  a0 := Tryd.isAgg0
  z0 := Tryd.sizeOf0
  v0 := Tryd.zeroValue0
  t3 := Tryd.underlying3
  a3 := Tryd.isAgg3
  z3 := Tryd.sizeOf3
  v3 := Tryd.zeroValue3
  t4 := Tryd.underlying4
  a4 := Tryd.isAgg4
  z4 := Tryd.sizeOf4
  v4 := Tryd.zeroValue4
  t21 := Tryd.underlying21
  a21 := Tryd.isAgg21
  z21 := Tryd.sizeOf21
  v21 := Tryd.zeroValue21
  t46 := Tryd.underlying79
  a46 := Tryd.isAgg79
  z46 := Tryd.sizeOf79
  v46 := Tryd.zeroValue79
  t49 := Tryd.underlying135
  a49 := Tryd.isAgg135
  z49 := Tryd.sizeOf135
  v49 := Tryd.zeroValue135
  t51 := Tryd.underlying82
  a51 := Tryd.isAgg82
  z51 := Tryd.sizeOf82
  v51 := Tryd.zeroValue82
  t141 := Tryd.underlying121
  a141 := Tryd.isAgg121
  z141 := Tryd.sizeOf121
  v141 := Tryd.zeroValue121
  t193 := Tryd.underlying131
  a193 := Tryd.isAgg131
  z193 := Tryd.sizeOf131
  v193 := Tryd.zeroValue131
  t194 := Tryd.underlying132
  a194 := Tryd.isAgg132
  z194 := Tryd.sizeOf132
  v194 := Tryd.zeroValue132
  t196 := Tryd.underlying134
  a196 := Tryd.isAgg134
  z196 := Tryd.sizeOf134
  v196 := Tryd.zeroValue134
  t198 := Tryd.underlying137
  a198 := Tryd.isAgg137
  z198 := Tryd.sizeOf137
  v198 := Tryd.zeroValue137
  t201 := Tryd.underlying140
  a201 := Tryd.isAgg140
  z201 := Tryd.sizeOf140
  v201 := Tryd.zeroValue140
  t226 := Tryd.underlying148
  a226 := Tryd.isAgg148
  z226 := Tryd.sizeOf148
  v226 := Tryd.zeroValue148
  t227 := Tryd.underlying149
  a227 := Tryd.isAgg149
  z227 := Tryd.sizeOf149
  v227 := Tryd.zeroValue149
  g6 := by kernel_rfl }
open Go.RowKit Go.Lib in
theorem Tryd.unicode_IsSpace (r : Int) (w : World) (h0 : 0 ≤ r) (h : r ≤ 255) :
    Calls Tryd.prog 86 #[.int .i32 r] w fun e w' => e = .returned (.bool (Lib.isSpaceL r)) ∧ w' = w := Any.unicode_IsSpace Tryd.lays199 r w h0 h
def Tryd.lays311_ren : Go.Shelf.Ren := ⟨fun | 311 => 102 | n => n, fun | 193 => 131 | 49 => 135 | 4 => 4 | 3 => 3 | 0 => 0 | 226 => 148 | 198 => 137 | 46 => 79 | n => n, fun | n => n⟩
theorem Tryd.lays311 : Go.Proofs.Lays.n311 Tryd.prog Tryd.lays311_ren := {
  mixed := by kernel_rfl
  f311 := Tryd.func102.trans (congrArg some (by kernel_rfl))
  t0 := Tryd.underlying0
  a0 := Tryd.isAgg0
  z0 := Tryd.sizeOf0
  v0 := Tryd.zeroValue0
  t3 := Tryd.underlying3
  a3 := Tryd.isAgg3
  z3 := Tryd.sizeOf3
  v3 := Tryd.zeroValue3
  t4 := Tryd.underlying4
  a4 := Tryd.isAgg4
  z4 := Tryd.sizeOf4
  v4 := Tryd.zeroValue4
  t46 := Tryd.underlying79
  a46 := Tryd.isAgg79
  z46 := Tryd.sizeOf79
  v46 := Tryd.zeroValue79
  t49 := Tryd.underlying135
  a49 := Tryd.isAgg135
  z49 := Tryd.sizeOf135
  v49 := Tryd.zeroValue135
  t193 := Tryd.underlying131
  a193 := Tryd.isAgg131
  z193 := Tryd.sizeOf131
  v193 := Tryd.zeroValue131
  t198 := Tryd.underlying137
  a198 := Tryd.isAgg137
  z198 := Tryd.sizeOf137
  v198 := Tryd.zeroValue137
  t226 := Tryd.underlying148
  a226 := Tryd.isAgg148
  z226 := Tryd.sizeOf148
  v226 := Tryd.zeroValue148 }
open Go.RowKit Go.Lib in
theorem Tryd.unicode_is16_white (R oR : Nat) (z : Nat) (w : World) (hz : z < 65536) (hz0 : 255 < z) (c6 : w.cell? ⟨R, oR + 6, none⟩ = some (.int .u16 160)) (c7 : w.cell? ⟨R, oR + 7, none⟩ = some (.int .u16 5760)) (c8 : w.cell? ⟨R, oR + 8, none⟩ = some (.int .u16 5600)) (c9 : w.cell? ⟨R, oR + 9, none⟩ = some (.int .u16 8192)) (c10 : w.cell? ⟨R, oR + 10, none⟩ = some (.int .u16 8202)) (c11 : w.cell? ⟨R, oR + 11, none⟩ = some (.int .u16 1)) (c12 : w.cell? ⟨R, oR + 12, none⟩ = some (.int .u16 8232)) (c13 : w.cell? ⟨R, oR + 13, none⟩ = some (.int .u16 8233)) (c14 : w.cell? ⟨R, oR + 14, none⟩ = some (.int .u16 1)) (c15 : w.cell? ⟨R, oR + 15, none⟩ = some (.int .u16 8239)) (c16 : w.cell? ⟨R, oR + 16, none⟩ = some (.int .u16 8287)) (c17 : w.cell? ⟨R, oR + 17, none⟩ = some (.int .u16 48)) (c18 : w.cell? ⟨R, oR + 18, none⟩ = some (.int .u16 12288)) (c19 : w.cell? ⟨R, oR + 19, none⟩ = some (.int .u16 12288)) (c20 : w.cell? ⟨R, oR + 20, none⟩ = some (.int .u16 1)) :
    Calls Tryd.prog 102 #[.slice (some ⟨R, oR + 6, none⟩) 5 5, .int .u16 z] w fun e w' => e = .returned (.bool (Lib.isSpaceR z)) ∧ Below w.heap.size w w' := Any.unicode_is16_white Tryd.lays311 R oR z w hz hz0 c6 c7 c8 c9 c10 c11 c12 c13 c14 c15 c16 c17 c18 c19 c20
def Tryd.lays261_ren : Go.Shelf.Ren := ⟨fun | 261 => 92 | 311 => 102 | 312 => 103 | n => n, fun | 141 => 121 | 21 => 21 | 4 => 4 | 0 => 0 | 196 => 134 | 193 => 131 | 3 => 3 | 51 => 82 | 198 => 137 | 49 => 135 | 194 => 132 | 201 => 140 | 226 => 148 | 46 => 79 | 227 => 149 | n => n, fun | n => n⟩
theorem Tryd.lays261 : Go.Proofs.Lays.n261 Tryd.prog Tryd.lays261_ren := {
  mixed := by kernel_rfl
  f261 := Tryd.func92.trans (congrArg some (by kernel_rfl))
  f311 := Tryd.func102.trans (congrArg some (by kernel_rfl))
  f312 := Tryd.func103.trans (congrArg some (by kernel_rfl))
  t0 := Tryd.underlying0
  a0 := Tryd.isAgg0
  z0 := Tryd.sizeOf0
  v0 := Tryd.zeroValue0
  t3 := Tryd.underlying3
  a3 := Tryd.isAgg3
  z3 := Tryd.sizeOf3
  v3 := Tryd.zeroValue3
  t4 := Tryd.underlying4
  a4 := Tryd.isAgg4
  z4 := Tryd.sizeOf4
  v4 := Tryd.zeroValue4
  t21 := Tryd.underlying21
  a21 := Tryd.isAgg21
  z21 := Tryd.sizeOf21
  v21 := Tryd.zeroValue21
  t46 := Tryd.underlying79
  a46 := Tryd.isAgg79
  z46 := Tryd.sizeOf79
  v46 := Tryd.zeroValue79
  t49 := Tryd.underlying135
  a49 := Tryd.isAgg135
  z49 := Tryd.sizeOf135
  v49 := Tryd.zeroValue135
  t51 := Tryd.underlying82
  a51 := Tryd.isAgg82
  z51 := Tryd.sizeOf82
  v51 := Tryd.zeroValue82
  t141 := Tryd.underlying121
  a141 := Tryd.isAgg121
  z141 := Tryd.sizeOf121
  v141 := Tryd.zeroValue121
  t193 := Tryd.underlying131
  a193 := Tryd.isAgg131
  z193 := Tryd.sizeOf131
  v193 := Tryd.zeroValue131
  t194 := Tryd.underlying132
  a194 := Tryd.isAgg132
  z194 := Tryd.sizeOf132
  v194 := Tryd.zeroValue132
  t196 := Tryd.underlying134
  a196 := Tryd.isAgg134
  z196 := Tryd.sizeOf134
  v196 := Tryd.zeroValue134
  t198 := Tryd.underlying137
  a198 := Tryd.isAgg137
  z198 := Tryd.sizeOf137
  v198 := Tryd.zeroValue137
  t201 := Tryd.underlying140
  a201 := Tryd.isAgg140
  z201 := Tryd.sizeOf140
  v201 := Tryd.zeroValue140
  t226 := Tryd.underlying148
  a226 := Tryd.isAgg148
  z226 := Tryd.sizeOf148
  v226 := Tryd.zeroValue148
  t227 := Tryd.underlying149
  a227 := Tryd.isAgg149
  z227 := Tryd.sizeOf149
  v227 := Tryd.zeroValue149 }
open Go.RowKit Go.Lib in
/-- unicode.isExcludingLatin(White_Space, r), r beyond U+00FF or negative. (LAID: no walk: one application.) -/
theorem Tryd.unicode_isExcludingLatin_white (T oT R oR : Nat) (r : Int) (w : World) (hlo : -2147483648 ≤ r) (hhi : r ≤ 2147483647) (hr : r < 0 ∨ 255 < r) (h2 : w.cell? ⟨T, oT, none⟩ = some (.slice (some ⟨R, oR, none⟩) 7 7)) (h3 : w.cell? ⟨T, oT + 1, none⟩ = some (.slice none 0 0)) (h4 : w.cell? ⟨T, oT + 2, none⟩ = some (.int .i64 2)) (h5 : ∀ i, i < 21 → w.cell? ⟨R, oR + i, none⟩ = some (.int .u16 (whiteT.getD i 0))) :
    Calls Tryd.prog 92 #[.pointer (some ⟨T, oT, none⟩), .int .i32 r] w fun e w' => e = .returned (.bool (Lib.isSpaceZ r)) ∧ Below w.heap.size w w' := Any.unicode_isExcludingLatin_white Tryd.lays261 T oT R oR r w hlo hhi hr h2 h3 h4 h5
open Go.RowKit Go.Lib in
/-- **unicode.IsSpace AT EVERY int32.** (LAID: no walk: one application.) -/
theorem Tryd.unicode_IsSpace_any (r : Int) (w : World) (hlo : -2147483648 ≤ r) (hhi : r ≤ 2147483647) (hW : Lib.WhiteTab 1 w) :
    Calls Tryd.prog 86 #[.int .i32 r] w fun e w' => e = .returned (.bool (Lib.isSpaceZ r)) ∧ Below w.heap.size w w' := Any.unicode_IsSpace_any Tryd.lays199 r w hlo hhi hW
open Go.RowKit Go.Lib in
theorem Tryd.unicode_is16_any (T : Array Rg) (R oR cap : Nat) (z : Nat) (w : World) (hz : z < 65536) (hT : RgTab .u16 R oR T w) (hok : RgOk 65536 T) (hn : T.size ≤ 1000000000) :
    Calls Tryd.prog 102 #[.slice (some ⟨R, oR, none⟩) T.size cap, .int .u16 z] w fun e w' => e = .returned (.bool (is16Go T z)) ∧ ∃ q, w' = w.drewN q := Any.unicode_is16_any Tryd.lays311 T R oR cap z w hz hT hok hn
def Tryd.lays312_ren : Go.Shelf.Ren := ⟨fun | 312 => 103 | n => n, fun | 194 => 132 | 51 => 82 | 4 => 4 | 3 => 3 | 0 => 0 | 227 => 149 | 201 => 140 | 46 => 79 | n => n, fun | n => n⟩
theorem Tryd.lays312 : Go.Proofs.Lays.n312 Tryd.prog Tryd.lays312_ren := {
  mixed := by kernel_rfl
  f312 := Tryd.func103.trans (congrArg some (by kernel_rfl))
  t0 := Tryd.underlying0
  a0 := Tryd.isAgg0
  z0 := Tryd.sizeOf0
  v0 := Tryd.zeroValue0
  t3 := Tryd.underlying3
  a3 := Tryd.isAgg3
  z3 := Tryd.sizeOf3
  v3 := Tryd.zeroValue3
  t4 := Tryd.underlying4
  a4 := Tryd.isAgg4
  z4 := Tryd.sizeOf4
  v4 := Tryd.zeroValue4
  t46 := Tryd.underlying79
  a46 := Tryd.isAgg79
  z46 := Tryd.sizeOf79
  v46 := Tryd.zeroValue79
  t51 := Tryd.underlying82
  a51 := Tryd.isAgg82
  z51 := Tryd.sizeOf82
  v51 := Tryd.zeroValue82
  t194 := Tryd.underlying132
  a194 := Tryd.isAgg132
  z194 := Tryd.sizeOf132
  v194 := Tryd.zeroValue132
  t201 := Tryd.underlying140
  a201 := Tryd.isAgg140
  z201 := Tryd.sizeOf140
  v201 := Tryd.zeroValue140
  t227 := Tryd.underlying149
  a227 := Tryd.isAgg149
  z227 := Tryd.sizeOf149
  v227 := Tryd.zeroValue149 }
open Go.RowKit Go.Lib in
theorem Tryd.unicode_is32_any (T : Array Rg) (R oR cap : Nat) (z : Nat) (w : World) (hz : z < 4294967296) (hT : RgTab .u32 R oR T w) (hok : RgOk 4294967296 T) (hn : T.size ≤ 1000000000) :
    Calls Tryd.prog 103 #[.slice (some ⟨R, oR, none⟩) T.size cap, .int .u32 z] w fun e w' => e = .returned (.bool (is32Go T z)) ∧ Below w.heap.size w w' := Any.unicode_is32_any Tryd.lays312 T R oR cap z w hz hT hok hn
open Go.RowKit Go.Lib in
theorem Tryd.unicode_isExcludingLatin_any (Tb oT : Nat) (T : RTab) (r : Int) (w : World) (hlo : -2147483648 ≤ r) (hhi : r ≤ 2147483647) (hA : RTabAt Tb oT T w) (hok : RTabOk T) :
    Calls Tryd.prog 92 #[.pointer (some ⟨Tb, oT, none⟩), .int .i32 r] w fun e w' => e = .returned (.bool (exclGo T r)) ∧ Below w.heap.size w w' := Any.unicode_isExcludingLatin_any Tryd.lays261 Tb oT T r w hlo hhi hA hok
def Tryd.laysNm215_ren : Go.Shelf.Ren := ⟨fun | 15 => 83 | n => n, fun | 22 => 22 | 3 => 3 | 4 => 4 | n => n, fun | n => n⟩
theorem Tryd.laysNm215 : Go.Proofs.Lays2.n15 Tryd.prog Tryd.laysNm215_ren := {
  mixed := by kernel_rfl
  f15 := Tryd.func83.trans (congrArg some (by kernel_rfl))
  t3 := Tryd.underlying3
  a3 := Tryd.isAgg3
  z3 := Tryd.sizeOf3
  v3 := Tryd.zeroValue3
  t4 := Tryd.underlying4
  a4 := Tryd.isAgg4
  z4 := Tryd.sizeOf4
  v4 := Tryd.zeroValue4
  t22 := Tryd.underlying22
  a22 := Tryd.isAgg22
  z22 := Tryd.sizeOf22
  v22 := Tryd.zeroValue22
  i3 := by kernel_rfl }
open Go.RowKit Go.Lib in
/-- slices.Clone at []int: "Clone returns a copy of the slice. The elements are copied using assignment, so this is a shallow clone. The result may have additional unused capacity. The result preserves the nilness of s.": OF A SLICE THAT IS NOT nil IT RETURNS A SLICE THAT IS NOT nil, OF THE SAME ELEMENTS, IN MEMORY OF THE CALL's OWN: in the how-to's words (6f): 'w'.ownsRow B e 1 v' n cells': v' begins at the head of a row among the blocks from B on (B: the heap's size at the call), not frozen, whose first cells are the elements · 'Below B w w'': below B all is as it was. The capacity is whatever the run-time gives. 'zs': what the cells behind the slice's address hold; 'zs.take n': its elements. (LAID: no walk: one application.) -/
theorem Tryd.slices_Clone_int (b off n c : Nat) (zs : List Int) (w : World) (hz : n ≤ zs.length) (hbig : n * 8 ≤ 140737488355328) (hc : ∀ j, j < zs.length → w.cell? ⟨b, off + j, none⟩ = some (.int .i64 (zs.getD j 0))) :
    Calls Tryd.prog 83 #[.slice (some ⟨b, off, none⟩) n c] w fun e w' => ∃ v', e = .returned v' ∧ w'.ownsRow w.heap.size 3 1 v' n ((zs.take n).map (Value.int .i64)) ∧ v' ≠ .slice none 0 0 ∧ Below w.heap.size w w' := Any.slices_Clone_int Tryd.laysNm215 b off n c zs w hz hbig hc
open Go.RowKit Go.Lib in
/-- The same at nil: nil comes back; the world is as it was. (LAID: no walk: one application.) -/
theorem Tryd.slices_Clone_int_nil (n c : Nat) (w : World) :
    Calls Tryd.prog 83 #[.slice none n c] w fun e w' => e = .returned (.slice none 0 0) ∧ w' = w := Any.slices_Clone_int_nil Tryd.laysNm215 n c w
open Go.RowKit Go.Lib in
/-- The same at a slice of length 0 that is not nil, WHATEVER ITS ADDRESS (no cell is asked for): a slice that is not nil and owns nothing comes back. (LAID: no walk: one application.) -/
theorem Tryd.slices_Clone_int_zero (a : Addr) (c : Nat) (w : World) :
    Calls Tryd.prog 83 #[.slice (some a) 0 c] w fun e w' => ∃ v', e = .returned v' ∧ w'.ownsRow w.heap.size 3 1 v' 0 [] ∧ v' ≠ .slice none 0 0 ∧ Below w.heap.size w w' := Any.slices_Clone_int_zero Tryd.laysNm215 a c w
end Go.Proofs
end
