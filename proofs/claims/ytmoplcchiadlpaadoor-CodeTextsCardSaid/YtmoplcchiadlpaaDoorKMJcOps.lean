/- code.ops: the table, as a map that the call makes. code.shape: is an instruction one at all? code.split: fields, parted into registers and the number's letter. code.Size, Name, Control, Reaches. code.Text: an instruction as a line. -/
import Derived.Test.YtmoplcchiadlpaaDoorKMJc1
import Derived.Test.YtmoplcchiadlpaaDoorKWWords
import Derived.WalkLawsBesides
import Derived.WalkSpells
import Derived.Deep.QuietTactic
import Derived.Deep.RegionHeld3
import Derived.Deep.RegionWith
import Derived.Deep.DeepCutAuto
import Derived.Deep.CutBlock
import Derived.BigQuiet
import Derived.Lib.Hide
import Derived.Lib.AppendIntMem
section
set_option linter.unusedVariables false
set_option linter.unusedSimpArgs false
namespace Go.Proofs.YtmoplcchiadlpaaDoor.Jc
open Go Go.RowKit Go.ChangeMaps Go.Proofs.YtmoplcchiadlpaaDoorW.PrintWords

/-- The table as the map's entries. -/
def opVal (x : List UInt8 × List UInt8) : Value := .agg #[.string ⟨x.1.toArray⟩, .string ⟨x.2.toArray⟩]
def asEnts (l : List (Int × List UInt8 × List UInt8)) : List (Int × Value) := l.map fun p => (p.1, opVal p.2)

-- GEN
theorem build0 (W : World) : (Instr.build 96 #[(0, .int .i64 1), (1, (.string ⟨#[109, 111, 118]⟩)), (2, (.string ⟨#[68, 65]⟩))]).run Tryd.prog W = .ok (.agg #[.int .i64 1, (.string ⟨#[109, 111, 118]⟩), (.string ⟨#[68, 65]⟩)]) W := by kernel_rfl
theorem build1 (W : World) : (Instr.build 96 #[(0, .int .i64 2), (1, (.string ⟨#[115, 119, 97, 112]⟩)), (2, (.string ⟨#[65, 66]⟩))]).run Tryd.prog W = .ok (.agg #[.int .i64 2, (.string ⟨#[115, 119, 97, 112]⟩), (.string ⟨#[65, 66]⟩)]) W := by kernel_rfl
theorem build2 (W : World) : (Instr.build 96 #[(0, .int .i64 3), (1, (.string ⟨#[108, 105]⟩)), (2, (.string ⟨#[68, 104]⟩))]).run Tryd.prog W = .ok (.agg #[.int .i64 3, (.string ⟨#[108, 105]⟩), (.string ⟨#[68, 104]⟩)]) W := by kernel_rfl
theorem build3 (W : World) : (Instr.build 96 #[(0, .int .i64 4), (1, (.string ⟨#[108, 105, 119]⟩)), (2, (.string ⟨#[68, 119]⟩))]).run Tryd.prog W = .ok (.agg #[.int .i64 4, (.string ⟨#[108, 105, 119]⟩), (.string ⟨#[68, 119]⟩)]) W := by kernel_rfl
theorem build4 (W : World) : (Instr.build 96 #[(0, .int .i64 5), (1, (.string ⟨#[97, 100, 100, 32, 115, 117, 98, 32, 109, 117, 108, 32, 97, 110, 100, 32, 111, 114, 32, 120, 111, 114, 32, 115, 104, 108, 32, 115, 104, 114, 32, 115, 97, 114, 32, 101, 113, 32, 108, 116, 32, 108, 116, 117, 32, 100, 105, 118]⟩)), (2, (.string ⟨#[68, 65, 66]⟩))]).run Tryd.prog W = .ok (.agg #[.int .i64 5, (.string ⟨#[97, 100, 100, 32, 115, 117, 98, 32, 109, 117, 108, 32, 97, 110, 100, 32, 111, 114, 32, 120, 111, 114, 32, 115, 104, 108, 32, 115, 104, 114, 32, 115, 97, 114, 32, 101, 113, 32, 108, 116, 32, 108, 116, 117, 32, 100, 105, 118]⟩), (.string ⟨#[68, 65, 66]⟩)]) W := by kernel_rfl
theorem build5 (W : World) : (Instr.build 96 #[(0, .int .i64 18), (1, (.string ⟨#[97, 100, 100, 105, 32, 97, 110, 100, 105]⟩)), (2, (.string ⟨#[68, 65, 105]⟩))]).run Tryd.prog W = .ok (.agg #[.int .i64 18, (.string ⟨#[97, 100, 100, 105, 32, 97, 110, 100, 105]⟩), (.string ⟨#[68, 65, 105]⟩)]) W := by kernel_rfl
theorem build6 (W : World) : (Instr.build 96 #[(0, .int .i64 20), (1, (.string ⟨#[115, 104, 108, 105, 32, 115, 104, 114, 105, 32, 115, 97, 114, 105]⟩)), (2, (.string ⟨#[68, 65, 115]⟩))]).run Tryd.prog W = .ok (.agg #[.int .i64 20, (.string ⟨#[115, 104, 108, 105, 32, 115, 104, 114, 105, 32, 115, 97, 114, 105]⟩), (.string ⟨#[68, 65, 115]⟩)]) W := by kernel_rfl
theorem build7 (W : World) : (Instr.build 96 #[(0, .int .i64 23), (1, (.string ⟨#[109, 97, 100, 100]⟩)), (2, (.string ⟨#[68, 65, 66, 67]⟩))]).run Tryd.prog W = .ok (.agg #[.int .i64 23, (.string ⟨#[109, 97, 100, 100]⟩), (.string ⟨#[68, 65, 66, 67]⟩)]) W := by kernel_rfl
theorem build8 (W : World) : (Instr.build 96 #[(0, .int .i64 24), (1, (.string ⟨#[108, 100]⟩)), (2, (.string ⟨#[68, 65, 117]⟩))]).run Tryd.prog W = .ok (.agg #[.int .i64 24, (.string ⟨#[108, 100]⟩), (.string ⟨#[68, 65, 117]⟩)]) W := by kernel_rfl
theorem build9 (W : World) : (Instr.build 96 #[(0, .int .i64 25), (1, (.string ⟨#[108, 100, 120]⟩)), (2, (.string ⟨#[68, 65, 66]⟩))]).run Tryd.prog W = .ok (.agg #[.int .i64 25, (.string ⟨#[108, 100, 120]⟩), (.string ⟨#[68, 65, 66]⟩)]) W := by kernel_rfl
theorem build10 (W : World) : (Instr.build 96 #[(0, .int .i64 26), (1, (.string ⟨#[115, 116]⟩)), (2, (.string ⟨#[65, 66, 117]⟩))]).run Tryd.prog W = .ok (.agg #[.int .i64 26, (.string ⟨#[115, 116]⟩), (.string ⟨#[65, 66, 117]⟩)]) W := by kernel_rfl
theorem build11 (W : World) : (Instr.build 96 #[(0, .int .i64 27), (1, (.string ⟨#[115, 116, 120]⟩)), (2, (.string ⟨#[65, 66, 67]⟩))]).run Tryd.prog W = .ok (.agg #[.int .i64 27, (.string ⟨#[115, 116, 120]⟩), (.string ⟨#[65, 66, 67]⟩)]) W := by kernel_rfl
theorem build12 (W : World) : (Instr.build 96 #[(0, .int .i64 28), (1, (.string ⟨#[99, 97, 108, 108]⟩)), (2, (.string ⟨#[110, 119]⟩))]).run Tryd.prog W = .ok (.agg #[.int .i64 28, (.string ⟨#[99, 97, 108, 108]⟩), (.string ⟨#[110, 119]⟩)]) W := by kernel_rfl
theorem build13 (W : World) : (Instr.build 96 #[(0, .int .i64 29), (1, (.string ⟨#[109, 117, 108, 119]⟩)), (2, (.string ⟨#[65, 66]⟩))]).run Tryd.prog W = .ok (.agg #[.int .i64 29, (.string ⟨#[109, 117, 108, 119]⟩), (.string ⟨#[65, 66]⟩)]) W := by kernel_rfl
theorem build14 (W : World) : (Instr.build 96 #[(0, .int .i64 30), (1, (.string ⟨#[115, 108, 100]⟩)), (2, (.string ⟨#[68, 112]⟩))]).run Tryd.prog W = .ok (.agg #[.int .i64 30, (.string ⟨#[115, 108, 100]⟩), (.string ⟨#[68, 112]⟩)]) W := by kernel_rfl
theorem build15 (W : World) : (Instr.build 96 #[(0, .int .i64 31), (1, (.string ⟨#[115, 115, 116]⟩)), (2, (.string ⟨#[65, 112]⟩))]).run Tryd.prog W = .ok (.agg #[.int .i64 31, (.string ⟨#[115, 115, 116]⟩), (.string ⟨#[65, 112]⟩)]) W := by kernel_rfl
theorem build16 (W : World) : (Instr.build 96 #[(0, .int .i64 40), (1, (.string ⟨#[106]⟩)), (2, (.string ⟨#[98]⟩))]).run Tryd.prog W = .ok (.agg #[.int .i64 40, (.string ⟨#[106]⟩), (.string ⟨#[98]⟩)]) W := by kernel_rfl
theorem build17 (W : World) : (Instr.build 96 #[(0, .int .i64 41), (1, (.string ⟨#[98, 110, 122, 32, 98, 122]⟩)), (2, (.string ⟨#[65, 98]⟩))]).run Tryd.prog W = .ok (.agg #[.int .i64 41, (.string ⟨#[98, 110, 122, 32, 98, 122]⟩), (.string ⟨#[65, 98]⟩)]) W := by kernel_rfl
theorem build18 (W : World) : (Instr.build 96 #[(0, .int .i64 43), (1, (.string ⟨#[98, 101, 113, 32, 98, 110, 101, 32, 98, 108, 116, 32, 98, 103, 101, 32, 98, 108, 116, 117, 32, 98, 103, 101, 117]⟩)), (2, (.string ⟨#[65, 66, 98]⟩))]).run Tryd.prog W = .ok (.agg #[.int .i64 43, (.string ⟨#[98, 101, 113, 32, 98, 110, 101, 32, 98, 108, 116, 32, 98, 103, 101, 32, 98, 108, 116, 117, 32, 98, 103, 101, 117]⟩), (.string ⟨#[65, 66, 98]⟩)]) W := by kernel_rfl
theorem build19 (W : World) : (Instr.build 96 #[(0, .int .i64 49), (1, (.string ⟨#[106, 116]⟩)), (2, (.string ⟨#[65, 116]⟩))]).run Tryd.prog W = .ok (.agg #[.int .i64 49, (.string ⟨#[106, 116]⟩), (.string ⟨#[65, 116]⟩)]) W := by kernel_rfl
theorem build20 (W : World) : (Instr.build 96 #[(0, .int .i64 50), (1, (.string ⟨#[114, 101, 116]⟩)), (2, (.string ⟨#[101]⟩))]).run Tryd.prog W = .ok (.agg #[.int .i64 50, (.string ⟨#[114, 101, 116]⟩), (.string ⟨#[101]⟩)]) W := by kernel_rfl
theorem build21 (W : World) : (Instr.build 96 #[(0, .int .i64 51), (1, (.string ⟨#[116, 114, 97, 112]⟩)), (2, (.string ⟨#[119]⟩))]).run Tryd.prog W = .ok (.agg #[.int .i64 51, (.string ⟨#[116, 114, 97, 112]⟩), (.string ⟨#[119]⟩)]) W := by kernel_rfl
def rowCells : Array Value := #[.int .i64 1, (.string ⟨#[109, 111, 118]⟩), (.string ⟨#[68, 65]⟩), .int .i64 2, (.string ⟨#[115, 119, 97, 112]⟩), (.string ⟨#[65, 66]⟩), .int .i64 3, (.string ⟨#[108, 105]⟩), (.string ⟨#[68, 104]⟩), .int .i64 4, (.string ⟨#[108, 105, 119]⟩), (.string ⟨#[68, 119]⟩), .int .i64 5, (.string ⟨#[97, 100, 100, 32, 115, 117, 98, 32, 109, 117, 108, 32, 97, 110, 100, 32, 111, 114, 32, 120, 111, 114, 32, 115, 104, 108, 32, 115, 104, 114, 32, 115, 97, 114, 32, 101, 113, 32, 108, 116, 32, 108, 116, 117, 32, 100, 105, 118]⟩), (.string ⟨#[68, 65, 66]⟩), .int .i64 18, (.string ⟨#[97, 100, 100, 105, 32, 97, 110, 100, 105]⟩), (.string ⟨#[68, 65, 105]⟩), .int .i64 20, (.string ⟨#[115, 104, 108, 105, 32, 115, 104, 114, 105, 32, 115, 97, 114, 105]⟩), (.string ⟨#[68, 65, 115]⟩), .int .i64 23, (.string ⟨#[109, 97, 100, 100]⟩), (.string ⟨#[68, 65, 66, 67]⟩), .int .i64 24, (.string ⟨#[108, 100]⟩), (.string ⟨#[68, 65, 117]⟩), .int .i64 25, (.string ⟨#[108, 100, 120]⟩), (.string ⟨#[68, 65, 66]⟩), .int .i64 26, (.string ⟨#[115, 116]⟩), (.string ⟨#[65, 66, 117]⟩), .int .i64 27, (.string ⟨#[115, 116, 120]⟩), (.string ⟨#[65, 66, 67]⟩), .int .i64 28, (.string ⟨#[99, 97, 108, 108]⟩), (.string ⟨#[110, 119]⟩), .int .i64 29, (.string ⟨#[109, 117, 108, 119]⟩), (.string ⟨#[65, 66]⟩), .int .i64 30, (.string ⟨#[115, 108, 100]⟩), (.string ⟨#[68, 112]⟩), .int .i64 31, (.string ⟨#[115, 115, 116]⟩), (.string ⟨#[65, 112]⟩), .int .i64 40, (.string ⟨#[106]⟩), (.string ⟨#[98]⟩), .int .i64 41, (.string ⟨#[98, 110, 122, 32, 98, 122]⟩), (.string ⟨#[65, 98]⟩), .int .i64 43, (.string ⟨#[98, 101, 113, 32, 98, 110, 101, 32, 98, 108, 116, 32, 98, 103, 101, 32, 98, 108, 116, 117, 32, 98, 103, 101, 117]⟩), (.string ⟨#[65, 66, 98]⟩), .int .i64 49, (.string ⟨#[106, 116]⟩), (.string ⟨#[65, 116]⟩), .int .i64 50, (.string ⟨#[114, 101, 116]⟩), (.string ⟨#[101]⟩), .int .i64 51, (.string ⟨#[116, 114, 97, 112]⟩), (.string ⟨#[119]⟩)]
theorem buildRows (W : World) : (Instr.buildSlice 97 22 #[(0, .agg #[.int .i64 1, (.string ⟨#[109, 111, 118]⟩), (.string ⟨#[68, 65]⟩)]), (1, .agg #[.int .i64 2, (.string ⟨#[115, 119, 97, 112]⟩), (.string ⟨#[65, 66]⟩)]), (2, .agg #[.int .i64 3, (.string ⟨#[108, 105]⟩), (.string ⟨#[68, 104]⟩)]), (3, .agg #[.int .i64 4, (.string ⟨#[108, 105, 119]⟩), (.string ⟨#[68, 119]⟩)]), (4, .agg #[.int .i64 5, (.string ⟨#[97, 100, 100, 32, 115, 117, 98, 32, 109, 117, 108, 32, 97, 110, 100, 32, 111, 114, 32, 120, 111, 114, 32, 115, 104, 108, 32, 115, 104, 114, 32, 115, 97, 114, 32, 101, 113, 32, 108, 116, 32, 108, 116, 117, 32, 100, 105, 118]⟩), (.string ⟨#[68, 65, 66]⟩)]), (5, .agg #[.int .i64 18, (.string ⟨#[97, 100, 100, 105, 32, 97, 110, 100, 105]⟩), (.string ⟨#[68, 65, 105]⟩)]), (6, .agg #[.int .i64 20, (.string ⟨#[115, 104, 108, 105, 32, 115, 104, 114, 105, 32, 115, 97, 114, 105]⟩), (.string ⟨#[68, 65, 115]⟩)]), (7, .agg #[.int .i64 23, (.string ⟨#[109, 97, 100, 100]⟩), (.string ⟨#[68, 65, 66, 67]⟩)]), (8, .agg #[.int .i64 24, (.string ⟨#[108, 100]⟩), (.string ⟨#[68, 65, 117]⟩)]), (9, .agg #[.int .i64 25, (.string ⟨#[108, 100, 120]⟩), (.string ⟨#[68, 65, 66]⟩)]), (10, .agg #[.int .i64 26, (.string ⟨#[115, 116]⟩), (.string ⟨#[65, 66, 117]⟩)]), (11, .agg #[.int .i64 27, (.string ⟨#[115, 116, 120]⟩), (.string ⟨#[65, 66, 67]⟩)]), (12, .agg #[.int .i64 28, (.string ⟨#[99, 97, 108, 108]⟩), (.string ⟨#[110, 119]⟩)]), (13, .agg #[.int .i64 29, (.string ⟨#[109, 117, 108, 119]⟩), (.string ⟨#[65, 66]⟩)]), (14, .agg #[.int .i64 30, (.string ⟨#[115, 108, 100]⟩), (.string ⟨#[68, 112]⟩)]), (15, .agg #[.int .i64 31, (.string ⟨#[115, 115, 116]⟩), (.string ⟨#[65, 112]⟩)]), (16, .agg #[.int .i64 40, (.string ⟨#[106]⟩), (.string ⟨#[98]⟩)]), (17, .agg #[.int .i64 41, (.string ⟨#[98, 110, 122, 32, 98, 122]⟩), (.string ⟨#[65, 98]⟩)]), (18, .agg #[.int .i64 43, (.string ⟨#[98, 101, 113, 32, 98, 110, 101, 32, 98, 108, 116, 32, 98, 103, 101, 32, 98, 108, 116, 117, 32, 98, 103, 101, 117]⟩), (.string ⟨#[65, 66, 98]⟩)]), (19, .agg #[.int .i64 49, (.string ⟨#[106, 116]⟩), (.string ⟨#[65, 116]⟩)]), (20, .agg #[.int .i64 50, (.string ⟨#[114, 101, 116]⟩), (.string ⟨#[101]⟩)]), (21, .agg #[.int .i64 51, (.string ⟨#[116, 114, 97, 112]⟩), (.string ⟨#[119]⟩)])]).run Tryd.prog W = .ok (.slice (some ⟨W.heap.size, 0, none⟩) 22 22) (W.alloc (.cells rowCells 96)) := by kernel_rfl
-- END GEN
theorem rowCells_at : ∀ k, k < 22 → rowCells[3 * k]? = some (.int .i64 (rows.getD k (0, [], [])).1) ∧ rowCells[3 * k + 1]? = some (.string ⟨(rows.getD k (0, [], [])).2.1.toArray⟩) ∧ rowCells[3 * k + 2]? = some (.string ⟨(rows.getD k (0, [], [])).2.2.toArray⟩) := by
  intro k hk
  match k, hk with
  | 0, _ | 1, _ | 2, _ | 3, _ | 4, _ | 5, _ | 6, _ | 7, _ | 8, _ | 9, _ | 10, _ | 11, _ | 12, _ | 13, _ | 14, _ | 15, _ | 16, _ | 17, _ | 18, _ | 19, _ | 20, _ | 21, _ => exact ⟨rfl, rfl, rfl⟩
  | n + 22, h => omega

theorem look_asEnts (k : Int) (l : List (Int × List UInt8 × List UInt8)) : look k (asEnts l) = (info k l).map opVal := by
  induction l with
  | nil => rfl
  | cons p r ih =>
    unfold asEnts at ih ⊢
    by_cases h : k = p.1
    · simp [look, info, h]
    · simp [look, info, h, ih]
theorem asEnts_snoc (l : List (Int × List UInt8 × List UInt8)) (p : Int × List UInt8 × List UInt8) : asEnts (l ++ [p]) = asEnts l ++ [(p.1, opVal p.2)] := by simp [asEnts]
theorem grown_cells {w w' : World} {B b : Nat} {cs : Array Value} {t : TypeId} {fr : Nat × Nat} (h : w.heap[b]? = some (.cells cs t fr)) (hg : w.grownBy w' (some B)) (hne : b ≠ B) : w'.heap[b]? = some (.cells cs t fr) :=
  (hg.block b (Array.getElem?_eq_some_iff.1 h).1 (by simpa using hne)).trans h
theorem cell_of_heap {w : World} {b i : Nat} {cs : Array Value} {t : TypeId} {fr : Nat × Nat} (h : w.heap[b]? = some (.cells cs t fr)) : w.cell? ⟨b, i, none⟩ = cs[i]? := by simp [World.cell?, h]

set_option maxRecDepth 100000 in
set_option maxHeartbeats 4000000 in
theorem ops_any (w : World) (htab0 : Lib.TabIs Tryd.prog w "strings.asciiSpace" .u8 Lib.asciiSpaceTab) :
    Calls Tryd.prog 45 #[] w fun e w' => e = .returned (.map (some w.heap.size)) ∧ IsMap w' w.heap.size (asEnts tab) ∧ Below w.heap.size w w' := by
  have htab := Lib.hid htab0
  clear htab0
  have hmm := @run_makeMap Tryd.prog
  have b0 := build0; have b1 := build1; have b2 := build2; have b3 := build3; have b4 := build4; have b5 := build5; have b6 := build6; have b7 := build7; have b8 := build8; have b9 := build9; have b10 := build10
  have b11 := build11; have b12 := build12; have b13 := build13; have b14 := build14; have b15 := build15; have b16 := build16; have b17 := build17; have b18 := build18; have b19 := build19; have b20 := build20; have b21 := build21
  have br := buildRows
  go_enter Tryd.func45, Tryd.ntmps45
  go_wp2_with fail
  clear b0 b1 b2 b3 b4 b5 b6 b7 b8 b9 b10 b11 b12 b13 b14 b15 b16 b17 b18 b19 b20 b21 br
  go_loopw [32] (fun i wr => ∃ k : Nat, k ≤ 22 ∧ i = .int .i64 k ∧ Aside0 (IsMap wr w.heap.size (asEnts (tabTo k))) ∧ Aside0 (wr.heap[w.heap.size + 1]? = some (.cells rowCells 96 (0, 0))) ∧ Aside0 (Below w.heap.size w wr)) (fun i _ => 22 - (intOf i).toNat)
  case atStart => exact ⟨0, by omega, rfl, ⟨((IsMap.new w).alloc _)⟩, ⟨by have h := heap_alloc_new (w.alloc (.map #[] 0)) (.cells rowCells 96); rw [show (w.alloc (.map #[] 0)).heap.size = w.heap.size + 1 by simp] at h; exact h⟩, ⟨((Below.refl _ _).alloc (Nat.le_refl _) _).alloc (by simp) _⟩⟩
  case round =>
    obtain ⟨k, hk, rfl, HM, HA, HB⟩ := hrel
    by_cases hlt : k < 22
    · obtain ⟨c0, c1, c2⟩ := rowCells_at k hlt
      have hasc := ascii_at k hlt
      obtain ⟨s1, s2, s3, s4⟩ := short_at k hlt
      have hfr := Aside0.mk (fresh_at k hlt)
      have hsucc := Aside0.mk (tabTo_succ k hlt)
      generalize hr : rows.getD k (0, [], []) = r at *
      clear hr
      obtain ⟨F, nm, fl⟩ := r
      have hb1 : w.heap.size + 1 < wr.heap.size := (Array.getElem?_eq_some_iff.1 HA.out).1
      have e0 : wr.cell? ⟨w.heap.size + 1, k * 3, none⟩ = some (.int .i64 F) := by rw [cell_of_heap HA.out, Nat.mul_comm]; exact c0
      have e1 : wr.cell? ⟨w.heap.size + 1, k * 3 + 1, none⟩ = some (.string ⟨nm.toArray⟩) := by rw [cell_of_heap HA.out, Nat.mul_comm]; exact c1
      have e2 : wr.cell? ⟨w.heap.size + 1, k * 3 + 2, none⟩ = some (.string ⟨fl.toArray⟩) := by rw [cell_of_heap HA.out, Nat.mul_comm]; exact c2
      clear c0 c1 c2
      dsimp only at s1 s2 s3 s4
      have hF : ∀ W : World, Lib.TabIs Tryd.prog W "strings.asciiSpace" .u8 Lib.asciiSpaceTab → Calls Tryd.prog 70 #[.string ⟨nm.toArray⟩] W fun e w' =>
          e = .returned (.slice (some ⟨W.heap.size, 0, none⟩) (Lib.fields nm).length (Lib.fields nm).length) ∧ w' = W.alloc (.cells ((Lib.fields nm).map fun l => Value.string ⟨l.toArray⟩).toArray 9) :=
        fun W ht => Tryd.strings_Fields_laid ⟨nm.toArray⟩ W (by show nm.toArray.size < _; simp; omega) (fun j b h => hasc b (List.mem_of_getElem? h)) ht
      clear hasc
      have HF := Lib.hid hF
      clear hF
      go_wp2_with fail
      refine (HF.out _ ?_).mono ?_
      · exact tabIs_below htab.out (HB.out.alloc (by omega) _)
      rintro e w1 ⟨rfl, rfl⟩
      go_wp2_with fail
      obtain ⟨wo, rfl⟩ : ∃ wo : World, wo = wr := ⟨_, rfl⟩
      go_loopw [2, 42] (fun a i wr => ∃ j : Nat, j ≤ (Lib.fields nm).length ∧ a = .int .i64 (F + (j : Int)) ∧ i = .int .i64 j ∧ Aside0 (IsMap wr w.heap.size (asEnts (tabTo k ++ rowPart (F, nm, fl) j))) ∧
          Aside0 (wr.heap[w.heap.size + 1]? = some (.cells rowCells 96 (0, 0))) ∧
          Aside0 (wr.heap[wo.heap.size]? = some (.cells #[.int .i64 F, .string ⟨nm.toArray⟩, .string ⟨fl.toArray⟩] 96 (0, 0))) ∧
          Aside0 (wr.heap[wo.heap.size + 1]? = some (.cells ((Lib.fields nm).map fun l => Value.string ⟨l.toArray⟩).toArray 9 (0, 0))) ∧ Aside0 (Below w.heap.size w wr)) (fun _ i _ => (Lib.fields nm).length - (intOf i).toNat)
      case atStart =>
        refine ⟨0, by omega, by simp, rfl, ⟨?_⟩, ⟨?_⟩, ⟨?_⟩, ⟨?_⟩, ⟨?_⟩⟩
        · simpa [rowPart] using ((HM.out.alloc _).alloc _)
        · exact (heap_alloc_old _ _ (by simp; omega)).trans ((heap_alloc_old _ _ (by omega)).trans HA.out)
        · exact (heap_alloc_old _ _ (by simp)).trans (heap_alloc_new _ _)
        · have h := heap_alloc_new (wo.alloc (.cells #[.int .i64 F, .string ⟨nm.toArray⟩, .string ⟨fl.toArray⟩] 96)) (.cells ((Lib.fields nm).map fun l => Value.string ⟨l.toArray⟩).toArray 9)
          rw [World.size_alloc] at h
          exact h
        · exact (HB.out.alloc (by omega) _).alloc (by simp; omega) _
      case round =>
        obtain ⟨j, hj, rfl, rfl, HM2, HA2, HV2, HN2, HB2⟩ := hrel
        by_cases hlt2 : j < (Lib.fields nm).length
        · have hcn : wr.cell? ⟨wo.heap.size + 1, j, none⟩ = some (.string ⟨((Lib.fields nm).getD j []).toArray⟩) := by
            rw [cell_of_heap HN2.out]
            simp [List.getD_eq_getElem?_getD, hlt2]
          have hcv : wr.cell? ⟨wo.heap.size, 2, none⟩ = some (.string ⟨fl.toArray⟩) := by rw [cell_of_heap HV2.out]; rfl
          have hk2 : look (F + (j : Int)) (asEnts (tabTo k ++ rowPart (F, nm, fl) j)) = none := by rw [look_asEnts, hfr.out j hlt2]; rfl
          have HK2 := Lib.hid hk2
          clear hk2
          have hsn := Lib.hid (rowPart_succ (F, nm, fl) j hlt2)
          go_wp2_with (at_mapUpdate; refine wpList_update_new Tryd.underlying67 Tryd.underlying3 _ rfl _ _ _ rfl w.heap.size _ rfl HM2.out _ _ rfl rfl HK2.out ?_; intro w1 hm1 hg1)
          go_roundw
          case rel =>
            have hwo : w.heap.size < wo.heap.size := by omega
            refine ⟨j + 1, by omega, by go_num, by go_num, ⟨?_⟩, ⟨grown_cells HA2.out hg1 (by omega)⟩, ⟨grown_cells HV2.out hg1 (by omega)⟩, ⟨grown_cells HN2.out hg1 (by omega)⟩, ⟨HB2.out.grown hg1 HB2.out.size (fun k h => by cases h; exact Nat.le_refl _)⟩⟩
            rw [hsn.out, ← List.append_assoc, asEnts_snoc]
            have e : (Lib.fields nm).getD j [] = (Lib.fields nm)[j] := by simp [List.getD_eq_getElem?_getD, hlt2]
            dsimp only
            rw [e]
            exact hm1
          case measure => simp [intOf]; omega
        · obtain rfl : j = (Lib.fields nm).length := by omega
          go_wp2_with fail
          go_roundw
          case rel =>
            refine ⟨k + 1, by omega, by go_num, ⟨?_⟩, HA2, HB2⟩
            rw [hsucc.out]; exact HM2.out
          case measure => simp [intOf]; omega
    · obtain rfl : k = 22 := by omega
      go_wp2_with fail
      go_ret
      refine ⟨rfl, ?_, HB.out⟩
      have h := HM.out
      rwa [tabTo_all] at h

/-- The same, the map's block a letter. -/
theorem ops_some (w : World) (htab0 : Lib.TabIs Tryd.prog w "strings.asciiSpace" .u8 Lib.asciiSpaceTab) :
    Calls Tryd.prog 45 #[] w fun e w' => ∃ B, e = .returned (.map (some B)) ∧ IsMap w' B (asEnts tab) ∧ Below w.heap.size w w' :=
  (ops_any w htab0).mono fun _ _ ⟨h1, h2, h3⟩ => ⟨_, h1, h2, h3⟩
end Go.Proofs.YtmoplcchiadlpaaDoor.Jc
end
section
set_option linter.unusedVariables false
set_option linter.unusedSimpArgs false
namespace Go.Proofs.YtmoplcchiadlpaaDoor.Jc
open Go Go.RowKit Go.ChangeMaps Go.Proofs.YtmoplcchiadlpaaDoorW.PrintWords

theorem zero_op (w : World) : (zeroValue 54).run Tryd.prog w = .ok (opVal ([], [])) w := by kernel_rfl

/-- What a look into the table tells. -/
theorem lookup_ops {w : World} {B : Nat} (h : IsMap w B (asEnts tab)) (op : Int) :
    (Instr.lookup 67 (.map (some B)) (.int .i64 op) true).run Tryd.prog w = .ok (.tuple #[.agg #[.string (bs (nameOf op)), .string (bs (fieldsOf op))], .bool (known op)]) w := by
  rw [h.run_lookup_ok Tryd.underlying67 Tryd.underlying3 op _ (zero_op w), look_asEnts]
  unfold nameOf fieldsOf known
  cases info op tab <;> rfl
theorem lookup_ops1 {w : World} {B : Nat} (h : IsMap w B (asEnts tab)) (op : Int) :
    (Instr.lookup 67 (.map (some B)) (.int .i64 op) false).run Tryd.prog w = .ok (.agg #[.string (bs (nameOf op)), .string (bs (fieldsOf op))]) w := by
  rw [h.run_lookup Tryd.underlying67 Tryd.underlying3 op _ (zero_op w), look_asEnts]
  unfold nameOf fieldsOf
  cases info op tab <;> rfl

set_option maxRecDepth 100000 in
set_option maxHeartbeats 4000000 in
theorem shape_any (m : M) (a : Option Addr) (c : Nat) (w : World) (har : ArgsIn w m a c) (htab : Lib.TabIs Tryd.prog w "strings.asciiSpace" .u8 Lib.asciiSpaceTab) :
    Calls Tryd.prog 32 #[.agg (cellsM m a c)] w fun e w' => e = .returned (.tuple #[.agg #[.string (bs (nameOf m.op)), .string (bs (fieldsOf m.op))], .bool (shapeOk m)]) ∧ Below w.heap.size w w' := by
  have HT := Lib.hid htab
  clear htab
  have HR := Lib.hid har
  clear har
  unfold cellsM
  go_enter Tryd.func32, Tryd.ntmps32
  go_wp2_with fail
  go_cut [4, 5] (fun o ok w1 => ∃ b, o = .pointer (some ⟨b, 0, none⟩) ∧ ok = .bool (known m.op) ∧ Aside0 (w1.cell? ⟨b, 0, none⟩ = some (.string (bs (nameOf m.op)))) ∧ Aside0 (w1.cell? ⟨b, 1, none⟩ = some (.string (bs (fieldsOf m.op)))) ∧ Aside0 (w.heap.size + 2 ≤ b) ∧ Aside0 (Below (w.heap.size + 2) ((w.alloc (.cells #[.int .i64 m.op, .int .i64 m.d, .int .i64 m.e, .int .i64 m.a, .int .i64 m.b, .int .i64 m.c, .int .i32 m.imm, .slice a m.args.length c] 24)).alloc (.cells #[.string ⟨#[]⟩, .string ⟨#[]⟩] 54)) w1))
  case first =>
    go_region_held3 (fun w' => w'.cell? ⟨w.heap.size, 0, none⟩ = some (.int .i64 m.op)) (first | go_keep | (rw [World.cell?_setCell_far _ _ _ _ (by simp; try omega), World.cell?_setCell_far _ _ _ _ (by simp; try omega)]; assumption))
      (first | (go_at_call 45; refine (ops_some _ ?_).mono ?_; (repeat (first | exact HT.out | apply tabIs_alloc | apply tabIs_drewN | apply tabIs_drew)); rintro e w1 ⟨B, rfl, hm, hb⟩; (have hk1 : w1.cell? ⟨w.heap.size, 0, none⟩ = some (.int .i64 m.op) := (hb.cell (p := ⟨w.heap.size, 0, none⟩) (by simp; try omega)).trans (by simp [go_sem])); have hl := lookup_ops hm m.op; have hl2 := fun o => lookup_ops (hm.alloc o) m.op; obtain ⟨hc1, hf1⟩ := bcell hb))
    all_goals
      go_wp2_with fail
      go_meet
      case rel =>
        have hsz := hb.size
        try replace hb := below_drewN_left hb
        try replace hb := below_drew_left hb
        refine ⟨_, rfl, rfl, ⟨?_⟩, ⟨?_⟩, ⟨?_⟩, ⟨?_⟩⟩
        · simp [go_sem, *]
        · simp [go_sem, *]
        · simp at hsz; omega
        · first
          | (refine Below.alloc (hb.mono ?_) ?_ _ <;> (simp at hsz ⊢; try omega); done)
          | (refine Below.setCell (Below.setCell (Below.trans (Below.alloc (Below.refl _ _) ?_ _) (hb.mono ?_)) ?_ _) ?_ _ <;> simp; done)
  case rest =>
    obtain ⟨b, rfl, rfl, HN, HF, HG, HB⟩ := hcut
    have e0 : wc.cell? ⟨w.heap.size, 0, none⟩ = some (.int .i64 m.op) := (HB.out.cell (p := ⟨w.heap.size, 0, none⟩) (by simp)).trans (by simp [go_sem])
    have e1 : wc.cell? ⟨w.heap.size, 1, none⟩ = some (.int .i64 m.d) := (HB.out.cell (p := ⟨w.heap.size, 1, none⟩) (by simp)).trans (by simp [go_sem])
    have e2 : wc.cell? ⟨w.heap.size, 2, none⟩ = some (.int .i64 m.e) := (HB.out.cell (p := ⟨w.heap.size, 2, none⟩) (by simp)).trans (by simp [go_sem])
    have e7 : wc.cell? ⟨w.heap.size, 7, none⟩ = some (.slice a m.args.length c) := (HB.out.cell (p := ⟨w.heap.size, 7, none⟩) (by simp)).trans (by simp [go_sem])
    have f0 : wc.cell? ⟨b, 0, none⟩ = some (.string (bs (nameOf m.op))) := HN.out
    have f1 : wc.cell? ⟨b, 1, none⟩ = some (.string (bs (fieldsOf m.op))) := HF.out
    have g0 : wc.cell? ⟨w.heap.size + 1, 0, none⟩ = some (.string ⟨#[]⟩) := (HB.out.cell (p := ⟨w.heap.size + 1, 0, none⟩) (by simp)).trans (by simp [go_sem])
    have g1 : wc.cell? ⟨w.heap.size + 1, 1, none⟩ = some (.string ⟨#[]⟩) := (HB.out.cell (p := ⟨w.heap.size + 1, 1, none⟩) (by simp)).trans (by simp [go_sem])
    have z0 : wc.frozen? ⟨w.heap.size + 1, 0, none⟩ = false := (HB.out.frozen (p := ⟨w.heap.size + 1, 0, none⟩) (by simp)).trans (by simp [go_sem])
    have z1 : wc.frozen? ⟨w.heap.size + 1, 1, none⟩ = false := (HB.out.frozen (p := ⟨w.heap.size + 1, 1, none⟩) (by simp)).trans (by simp [go_sem])
    clear HN HF
    have fin : ∀ x : Bool, shapeOk m = x → Below w.heap.size w ((wc.setCell ⟨w.heap.size + 1, 0, none⟩ (.string (bs (nameOf m.op)))).setCell ⟨w.heap.size + 1, 1, none⟩ (.string (bs (fieldsOf m.op)))) := fun _ _ =>
      ((((((Below.refl _ _).alloc (Nat.le_refl _) _).alloc (by simp) _).trans (HB.out.mono (by omega))).setCell (by simp) _).setCell (by simp) _)
    have FIN := Lib.hid fin
    have BW := Lib.hid (show Below w.heap.size w wc from ((((Below.refl _ _).alloc (Nat.le_refl _) _).alloc (by simp) _).trans (HB.out.mono (by omega))))
    clear fin HB
    have hm := HR.out.reads.2.1
    by_cases h28 : m.op = 28
    · have t28 : (m.op == 28) = true := by simpa using h28
      have hk : known m.op = true := by rw [h28]; exact known_28
      have hs : shapeOk m = (counts 0 (m.args.take m.args.length) && decide (m.args.length ≤ 4) && m.d == 0) := by unfold shapeOk; rw [if_pos h28, hk, List.take_length]; simp
      have HS := Lib.hid hs
      clear hs h28
      go_wp2_with fail
      go_loop [5, 22] (fun ok i => ∃ k : Nat, k ≤ m.args.length ∧ i = .int .i64 k ∧ ok = .bool (counts 0 (m.args.take k))) (fun _ i => m.args.length - (intOf i).toNat)
      case atStart => exact ⟨0, Nat.zero_le _, rfl, by simp [counts, hk]⟩
      case round =>
        obtain ⟨k, hkl, rfl, rfl⟩ := hrel
        by_cases hlt : k < m.args.length
        · have hct := Lib.hid (counts_take m.args k hlt)
          obtain ⟨ad, ha, hcells⟩ := HR.out.reads.2.2 (by omega)
          have hcell := ((HR.out.below (by exact BW.out)).reads.2.2 (by omega))
          obtain ⟨ad', ha', hcs⟩ := hcell
          have hcell := hcs k hlt
          clear hcs hcells ha HR
          subst ha'
          generalize m.args.getD k 0 = x at hcell hct
          cases hb : counts 0 (m.args.take k)
          all_goals
            have HBB := Lib.hid hb
            clear hb
            go_wp2_with fail
            go_round
            case rel => exact ⟨k + 1, by omega, by go_num, by rw [hct.out, HBB.out]; simp⟩
            case measure => simp [intOf]; omega
        · obtain rfl : k = m.args.length := by omega
          rcases Nat.lt_or_ge 4 m.args.length with hl | hl <;> cases hb : counts 0 (m.args.take m.args.length) <;> cases hd : m.d == 0
          all_goals
            go_wp2_with fail
            refine bodyPost_ret (v := .tuple #[.agg #[.string (bs (nameOf m.op)), .string (bs (fieldsOf m.op))], .bool (shapeOk m)]) ?_ rfl ⟨rfl, FIN.out _ rfl⟩
            rw [HS.out, hb, hd]
            simp [results, Tryd.results32, go_sem, f0, f1, g0, g1]
            try omega
    · have t28 : (m.op == 28) = false := by simpa using h28
      by_cases h29 : m.op = 29
      · have t29 : (m.op == 29) = true := by simpa using h29
        have hs : shapeOk m = (m.d == 0 && m.e == 1) := by unfold shapeOk; rw [if_neg h28, if_pos h29, h29, known_29]; simp
        have hk : known m.op = true := by rw [h29]; exact known_29
        have HS := Lib.hid hs
        clear hs h28 h29
        cases hd : m.d == 0 <;> cases he : m.e == 1
        all_goals
          go_wp2_with fail
          refine bodyPost_ret (v := .tuple #[.agg #[.string (bs (nameOf m.op)), .string (bs (fieldsOf m.op))], .bool (shapeOk m)]) ?_ rfl ⟨rfl, FIN.out _ rfl⟩
          rw [HS.out, hd, he]
          simp [results, Tryd.results32, go_sem, f0, f1, g0, g1]
      · have t29 : (m.op == 29) = false := by simpa using h29
        have hc98 : ∀ W : World, Calls Tryd.prog 64 #[.string (bs (fieldsOf m.op)), .string ⟨#[98]⟩] W fun e w' => e = .returned (.bool (decide (numF m.op = 98))) ∧ W = w' := fun W =>
          (Tryd.strings_Contains_one (bs (fieldsOf m.op)) 98 W).mono fun e w' ⟨h1, h2⟩ => ⟨by rw [h1]; exact congrArg (fun x => Ending.returned (.bool x)) (has_b m.op), h2.symm⟩
        have hc116 : ∀ W : World, Calls Tryd.prog 64 #[.string (bs (fieldsOf m.op)), .string ⟨#[116]⟩] W fun e w' => e = .returned (.bool (decide (numF m.op = 116))) ∧ W = w' := fun W =>
          (Tryd.strings_Contains_one (bs (fieldsOf m.op)) 116 W).mono fun e w' ⟨h1, h2⟩ => ⟨by rw [h1]; exact congrArg (fun x => Ending.returned (.bool x)) (has_t m.op), h2.symm⟩
        have HC98 := Lib.hid hc98
        have HC116 := Lib.hid hc116
        clear hc98 hc116
        by_cases hA : numF m.op = 98 ∨ m.op = 50
        · have hk : known m.op = true := by
            rcases hA with h | h
            · exact known_of_num _ (by rw [h]; decide)
            · rw [h]; exact known_50
          have hs : shapeOk m = (m.e == 0 || m.e == 1) := by unfold shapeOk; rw [if_neg h28, if_neg h29, if_pos hA, hk]; simp
          have HS := Lib.hid hs
          have hA' : decide (numF m.op = 98) = true ∨ (decide (numF m.op = 98) = false ∧ (m.op == 50) = true) := by
            by_cases h : numF m.op = 98
            · exact .inl (by simpa using h)
            · exact .inr ⟨by simpa using h, by simpa using hA.resolve_left h⟩
          clear hs h28 h29 hA
          rcases hA' with hA' | ⟨hA', h50⟩ <;> cases he0 : m.e == 0 <;> cases he1 : m.e == 1
          all_goals
            go_wp2_with fail
            refine (HC98.out _).mono ?_
            rintro e w' ⟨rfl, rfl⟩
            go_wp2_with fail
            refine bodyPost_ret (v := .tuple #[.agg #[.string (bs (nameOf m.op)), .string (bs (fieldsOf m.op))], .bool (shapeOk m)]) ?_ rfl ⟨rfl, FIN.out _ rfl⟩
            rw [HS.out, he0, he1]
            simp [results, Tryd.results32, go_sem, f0, f1, g0, g1]
        · have h98 : decide (numF m.op = 98) = false := by simpa using fun h => hA (.inl h)
          have h50 : (m.op == 50) = false := by simpa using fun h => hA (.inr h)
          rw [h98] at HC98
          clear h98
          by_cases h116 : numF m.op = 116
          · have d116 : decide (numF m.op = 116) = true := by simpa using h116
            have hk : known m.op = true := known_of_num _ (by rw [h116]; decide)
            have hs : shapeOk m = (decide (2 ≤ m.args.length) && decide (m.args.length ≤ 65)) := by unfold shapeOk; rw [if_neg h28, if_neg h29, if_neg hA, if_pos h116, hk]; simp
            have HS := Lib.hid hs
            rw [d116] at HC116
            clear hs h28 h29 hA h116 d116
            have h3 : m.args.length < 2 ∨ (2 ≤ m.args.length ∧ m.args.length ≤ 65) ∨ 65 < m.args.length := by omega
            rcases h3 with hl | ⟨hl, hl2⟩ | hl
            all_goals
              go_wp2_with fail
              refine (HC98.out _).mono ?_
              rintro e w' ⟨rfl, rfl⟩
              go_wp2_with fail
              refine (HC116.out _).mono ?_
              rintro e w' ⟨rfl, rfl⟩
              go_wp2_with fail
              refine bodyPost_ret (v := .tuple #[.agg #[.string (bs (nameOf m.op)), .string (bs (fieldsOf m.op))], .bool (shapeOk m)]) ?_ rfl ⟨rfl, FIN.out _ rfl⟩
              rw [HS.out]
              simp [results, Tryd.results32, go_sem, f0, f1, g0, g1]
              try first | omega | (rw [Bool.eq_iff_iff]; simp; omega)
          · have d116 : decide (numF m.op = 116) = false := by simpa using h116
            have hs : shapeOk m = known m.op := by unfold shapeOk; rw [if_neg h28, if_neg h29, if_neg hA, if_neg h116]; simp
            have HS := Lib.hid hs
            rw [d116] at HC116
            clear hs h28 h29 hA h116 d116
            go_wp2_with fail
            refine (HC98.out _).mono ?_
            rintro e w' ⟨rfl, rfl⟩
            go_wp2_with fail
            refine (HC116.out _).mono ?_
            rintro e w' ⟨rfl, rfl⟩
            go_wp2_with fail
            refine bodyPost_ret (v := .tuple #[.agg #[.string (bs (nameOf m.op)), .string (bs (fieldsOf m.op))], .bool (shapeOk m)]) ?_ rfl ⟨rfl, FIN.out _ rfl⟩
            rw [HS.out]
            simp [results, Tryd.results32, go_sem, f0, f1, g0, g1]
end Go.Proofs.YtmoplcchiadlpaaDoor.Jc
end
section
set_option linter.unusedVariables false
set_option linter.unusedSimpArgs false
namespace Go.Proofs.YtmoplcchiadlpaaDoor.Jc
open Go Go.RowKit Go.ChangeMaps Go.Proofs.YtmoplcchiadlpaaDoorW.PrintWords

theorem isReg_index (x : UInt8) : isReg x = decide (0 ≤ Lib.indexByte [68, 65, 66, 67] x) := by
  have h : ∀ i : Fin 256, isReg (UInt8.ofNat i.val) = decide (0 ≤ Lib.indexByte [68, 65, 66, 67] (UInt8.ofNat i.val)) := by decide +kernel
  have hx : UInt8.ofNat x.toNat = x := by simp
  have := h ⟨x.toNat, x.toNat_lt⟩
  simpa only [hx] using this

set_option maxRecDepth 100000 in
set_option maxHeartbeats 1000000 in
theorem split_any (f : List UInt8) (hf : f.length ≤ 1000) (w : World) :
    Calls Tryd.prog 34 #[.string (bs f)] w fun e w' => e = .returned (.tuple #[.string (bs (splitF f).1), .int .u8 (splitF f).2.toNat]) ∧ w = w' := by
  have hsz : (bs f).size = f.length := by simp [ByteArray.size]
  go_enter Tryd.func34, Tryd.ntmps34
  go_wp2_with fail
  go_loop [2, 3, 7] (fun a b i => ∃ (k : Nat) (regs : List UInt8) (num : UInt8), k ≤ f.length ∧ i = .int .i64 k ∧ a = .string (bs regs) ∧ b = .int .u8 num.toNat ∧ Aside0 (regs.length ≤ k) ∧ Aside0 (splitGo (f.drop k) regs num = splitF f)) (fun _ _ i => f.length - (intOf i).toNat)
  case atStart => exact ⟨0, [], 0, Nat.zero_le _, rfl, rfl, rfl, ⟨by simp⟩, ⟨rfl⟩⟩
  case round =>
    obtain ⟨k, regs, num, hk, rfl, rfl, rfl, HL, HG⟩ := hrel
    by_cases hlt : k < f.length
    · have hk2 : k < (bs f).size := by rw [hsz]; exact hlt
      have hd : f.drop k = (bs f)[k]'hk2 :: f.drop (k + 1) := List.drop_eq_getElem_cons hlt
      have hone : (bs f).extract k (k + 1) = bs [(bs f)[k]'hk2] := by
        apply ByteArray.ext
        apply Array.toList_inj.1
        have e : ((bs f).extract k (k + 1)).data.toList = (f.drop k).take 1 := by simp [ByteArray.data_extract, List.take_drop, Nat.add_comm]
        rw [e, hd]
        rfl
      have hs1 : (bs regs).size ≤ 1000 := by have := HL.out; show regs.toArray.size ≤ _; simp; omega
      have hs2 : ((bs f).extract k (k + 1)).size ≤ 1000 := by rw [hone]; show [_].toArray.size ≤ _; simp
      have HG1 := Aside0.mk (show splitGo ((bs f)[k]'hk2 :: f.drop (k + 1)) regs num = splitF f by rw [← hd]; exact HG.out)
      have HONE := Lib.hid hone
      clear hd HG hone
      have hI : ∀ (x : UInt8) (W : World), Calls Tryd.prog 65 #[.string ⟨#[68, 65, 66, 67]⟩, .int .u8 x.toNat] W fun e w' => e = .returned (.int .i64 (Lib.indexByte [68, 65, 66, 67] x)) ∧ W = w' := fun x W =>
        (Tryd.strings_IndexByte ⟨#[68, 65, 66, 67]⟩ (x.toNat : Int) W).mono fun e w' ⟨h1, h2⟩ => ⟨by rw [h1]; simp, h2.symm⟩
      have HI := Lib.hid hI
      clear hI
      have hsz2 := Lib.hid hsz
      have hszle : (bs f).size ≤ 1000 := by omega
      clear hsz
      go_wp2_with fail
      refine (HI.out _ _).mono ?_
      rintro e w' ⟨rfl, rfl⟩
      cases hr : isReg ((bs f)[k]'hk2)
      · have hi := isReg_index ((bs f)[k]'hk2)
        rw [hr] at hi
        have h0 : decide (0 ≤ Lib.indexByte [68, 65, 66, 67] ((bs f)[k]'hk2)) = false := hi.symm
        clear hi
        have hg1 : splitGo ((bs f)[k]'hk2 :: f.drop (k + 1)) regs num = if (bs f)[k]'hk2 = 110 then (regs, (bs f)[k]'hk2) else splitGo (f.drop (k + 1)) regs ((bs f)[k]'hk2) := by rw [splitGo, hr]; simp
        by_cases h110 : (bs f)[k]'hk2 = 110
        · rw [if_pos h110, HG1.out, h110] at hg1
          have HFIN := Lib.hid hg1
          have hb : (((bs f)[k]'hk2).toNat : Int) = 110 := by rw [h110]; rfl
          clear hg1 h110 hr HG1
          go_wp2_with fail
          go_ret2
          exact ⟨by rw [HFIN.out]; rfl, rfl⟩
        · rw [if_neg h110, HG1.out] at hg1
          have HN := Aside0.mk hg1
          have hb : ((((bs f)[k]'hk2).toNat : Int) == 110) = false := by
            rw [beq_eq_false_iff_ne]
            intro e
            exact h110 (UInt8.toNat_inj.1 (by have : (110 : UInt8).toNat = 110 := rfl; omega))
          clear hg1 h110 hr HG1
          go_wp2_with fail
          go_round
          case rel => exact ⟨k + 1, regs, _, by omega, by go_num, rfl, rfl, ⟨by have := HL.out; omega⟩, ⟨HN.out.symm⟩⟩
          case measure => simp [intOf]; omega
      · have hi := isReg_index ((bs f)[k]'hk2)
        rw [hr] at hi
        have h0 : decide (0 ≤ Lib.indexByte [68, 65, 66, 67] ((bs f)[k]'hk2)) = true := hi.symm
        have hg1 : splitGo ((bs f)[k]'hk2 :: f.drop (k + 1)) regs num = splitGo (f.drop (k + 1)) (regs ++ [(bs f)[k]'hk2]) num := by rw [splitGo, hr]; simp
        rw [HG1.out] at hg1
        have HN := Aside0.mk hg1
        clear hi hg1 hr HG1
        go_wp2_with fail
        go_round
        case rel => exact ⟨k + 1, regs ++ [(bs f)[k]'hk2], num, by omega, by go_num, by rw [HONE.out, bs_append], rfl, ⟨by have := HL.out; simp; omega⟩, ⟨HN.out.symm⟩⟩
        case measure => simp [intOf]; omega
    · obtain rfl : k = f.length := by omega
      have hfin : splitF f = (regs, num) := by rw [← HG.out, List.drop_length]; rfl
      go_wp2_with fail
      go_ret2
      exact ⟨rfl, rfl⟩
end Go.Proofs.YtmoplcchiadlpaaDoor.Jc
end
section
set_option linter.unusedVariables false
set_option linter.unusedSimpArgs false
namespace Go.Proofs.YtmoplcchiadlpaaDoor.Jc
open Go Go.RowKit Go.ChangeMaps Go.Proofs.YtmoplcchiadlpaaDoorW.PrintWords

theorem control_any (op : Int) (w : World) : Calls Tryd.prog 16 #[.int .i64 op] w fun e w' => e = .returned (.bool (decide (40 ≤ op ∧ op ≤ 51))) ∧ w = w' := by
  have h : (decide (40 ≤ op) = false ∧ decide (40 ≤ op ∧ op ≤ 51) = false) ∨ (decide (40 ≤ op) = true ∧ decide (op ≤ 51) = decide (40 ≤ op ∧ op ≤ 51)) := by
    by_cases h1 : 40 ≤ op
    · exact .inr ⟨by simp [h1], by simp [h1]⟩
    · exact .inl ⟨by simp; omega, by simp; omega⟩
  generalize decide (40 ≤ op ∧ op ≤ 51) = r at h
  rcases h with ⟨h1, rfl⟩ | ⟨h1, h2⟩
  all_goals
    go_enter Tryd.func16, Tryd.ntmps16
    go_wp2_with fail
    go_ret
    exact ⟨rfl, rfl⟩
theorem reaches_any (n : Int) (w : World) : Calls Tryd.prog 28 #[.int .i64 n] w fun e w' => e = .returned (.bool (decide (-128 ≤ n ∧ n ≤ 127))) ∧ w = w' := by
  have h : (decide (-128 ≤ n) = false ∧ decide (-128 ≤ n ∧ n ≤ 127) = false) ∨ (decide (-128 ≤ n) = true ∧ decide (n ≤ 127) = decide (-128 ≤ n ∧ n ≤ 127)) := by
    by_cases h1 : -128 ≤ n
    · exact .inr ⟨by simp [h1], by simp [h1]⟩
    · exact .inl ⟨by simp; omega, by simp; omega⟩
  generalize decide (-128 ≤ n ∧ n ≤ 127) = r at h
  rcases h with ⟨h1, rfl⟩ | ⟨h1, h2⟩
  all_goals
    go_enter Tryd.func28, Tryd.ntmps28
    go_wp2_with fail
    go_ret
    exact ⟨rfl, rfl⟩
theorem field_op (x y : Value) (W : World) : (Instr.field 54 (.agg #[x, y]) 0).run Tryd.prog W = .ok x W := by
  kernel_rfl
set_option maxRecDepth 100000 in
theorem name_any (op : Int) (w : World) (htab : Lib.TabIs Tryd.prog w "strings.asciiSpace" .u8 Lib.asciiSpaceTab) :
    Calls Tryd.prog 17 #[.int .i64 op] w fun e w' => e = .returned (.string (bs (nameOf op))) ∧ Below w.heap.size w w' := by
  have HT := Lib.hid htab
  clear htab
  go_enter Tryd.func17, Tryd.ntmps17
  go_wp2_with fail
  refine (ops_some _ HT.out).mono ?_
  rintro e w1 ⟨B, rfl, hm, hb⟩
  have hl := lookup_ops1 hm op
  have hf := field_op
  have HB := Lib.hid hb
  clear hb hm
  go_wp2_with fail
  go_ret
  exact ⟨rfl, HB.out⟩
theorem far_cases (m : M) : (((numF m.op).toNat : Int) == 98) = true ∧ (m.e == 1) = true ∧ farOf m = true ∨ (((numF m.op).toNat : Int) == 98) = true ∧ (m.e == 1) = false ∧ farOf m = false ∨ (((numF m.op).toNat : Int) == 98) = false ∧ farOf m = false := by
  unfold farOf
  by_cases h : numF m.op = 98
  · cases he : m.e == 1
    · exact .inr (.inl ⟨by rw [h]; rfl, rfl, by simp [h]⟩)
    · exact .inl ⟨by rw [h]; rfl, rfl, by simp [h]⟩
  · exact .inr (.inr ⟨u8_ne rfl h, by simp [h]⟩)
set_option maxRecDepth 100000 in
set_option maxHeartbeats 4000000 in
theorem size_any (m : M) (a : Option Addr) (c : Nat) (w : World) (har : ArgsIn w m a c) (htab : Lib.TabIs Tryd.prog w "strings.asciiSpace" .u8 Lib.asciiSpaceTab) :
    Calls Tryd.prog 19 #[.agg (cellsM m a c)] w fun e w' => e = .returned (.int .i64 (sizeM m)) ∧ Below w.heap.size w w' := by
  have HT := Lib.hid htab
  have HR := Lib.hid har
  clear har htab
  have hshape : ∀ W : World, Below w.heap.size w W → Calls Tryd.prog 32 #[.agg (cellsM m a c)] W fun e w' => e = .returned (.tuple #[.agg #[.string (bs (nameOf m.op)), .string (bs (fieldsOf m.op))], .bool (shapeOk m)]) ∧ Below W.heap.size W w' := fun W hW =>
    shape_any m a c W (HR.out.below hW) (tabIs_below HT.out hW)
  unfold cellsM at hshape ⊢
  have HSH := Lib.hid hshape
  clear hshape
  go_enter Tryd.func19, Tryd.ntmps19
  go_wp2_with fail
  have hb0 := below_alloc (Below.refl w.heap.size w) (.cells #[.int .i64 m.op, .int .i64 m.d, .int .i64 m.e, .int .i64 m.a, .int .i64 m.b, .int .i64 m.c, .int .i32 m.imm, .slice a m.args.length c] 24)
  have hblk := alloc_at w (.cells #[.int .i64 m.op, .int .i64 m.d, .int .i64 m.e, .int .i64 m.a, .int .i64 m.b, .int .i64 m.c, .int .i32 m.imm, .slice a m.args.length c] 24)
  refine (HSH.out _ hb0).mono ?_
  have HBK := Lib.hid hblk
  have hsz := Lib.hid (alloc_size w (.cells #[.int .i64 m.op, .int .i64 m.d, .int .i64 m.e, .int .i64 m.a, .int .i64 m.b, .int .i64 m.c, .int .i32 m.imm, .slice a m.args.length c] 24))
  have hbl := Lib.hid hb0
  clear hb0 hblk
  generalize hWW : w.alloc (.cells #[.int .i64 m.op, .int .i64 m.d, .int .i64 m.e, .int .i64 m.a, .int .i64 m.b, .int .i64 m.c, .int .i32 m.imm, .slice a m.args.length c] 24) = W at HBK hsz hbl
  rintro e w1 ⟨rfl, hb1⟩
  have hB : Below w.heap.size w w1 := below_step hbl.out hb1
  have hK : w1.heap[w.heap.size]? = some (.cells #[.int .i64 m.op, .int .i64 m.d, .int .i64 m.e, .int .i64 m.a, .int .i64 m.b, .int .i64 m.c, .int .i32 m.imm, .slice a m.args.length c] 24 (0, 0)) :=
    (hb1.block _ (by have := hsz.out; omega)).trans HBK.out
  have HK1 := Lib.hid hK
  have HB := Lib.hid hB
  have hmax := HR.out.reads.2.1
  clear hB hb1 hK HBK hsz hbl HSH HR
  clear hWW
  cases hsh : shapeOk m
  · have hs : sizeM m = 0 := by unfold sizeM; rw [if_pos hsh]
    have HS := Lib.hid hs
    clear hs hsh
    go_wp2_with fail
    go_ret
    exact ⟨by rw [HS.out]; rfl, below_alloc HB.out _⟩
  · have hs : sizeM m = _ := if_neg (by rw [hsh]; simp)
    have HS := Lib.hid hs
    have HSK := Lib.hid hsh
    clear hs hsh
    go_wp2_with fail
    refine (split_any (fieldsOf m.op) (by have := fields_short m.op; omega) _).mono ?_
    rintro e w2 ⟨rfl, rfl⟩
    rw [show (splitF (fieldsOf m.op)).2 = numF m.op from rfl, show (splitF (fieldsOf m.op)).1 = regsF m.op from rfl]
    have hK2 := alloc_old (o := (.cells #[.string (bs (nameOf m.op)), .string (bs (fieldsOf m.op))] 54)) HK1.out
    have hB2 := below_alloc HB.out (.cells #[.string (bs (nameOf m.op)), .string (bs (fieldsOf m.op))] 54)
    generalize w1.alloc (.cells #[.string (bs (nameOf m.op)), .string (bs (fieldsOf m.op))] 54) = W2 at hK2 hB2 ⊢
    have e2 : W2.cell? ⟨w.heap.size, 2, none⟩ = some (.int .i64 m.e) := (cell_blk hK2 2).trans rfl
    have e7 : W2.cell? ⟨w.heap.size, 7, none⟩ = some (.slice a m.args.length c) := (cell_blk hK2 7).trans rfl
    have HB2 := Lib.hid hB2
    clear hK2 hB2 HB HK1
    have hrs := regs_short m.op
    have hsz : (bs (regsF m.op)).size = (regsF m.op).length := bs_size _
    obtain ⟨r, hr⟩ : ∃ r, (regsF m.op).length = r := ⟨_, rfl⟩
    have HRL := Lib.hid hr
    rw [hr] at hsz hrs
    have hd : ((r : Int) + 1).tdiv 2 = (((r + 1) / 2 : Nat) : Int) := by
      rw [Int.tdiv_eq_ediv_of_nonneg (by omega)]
      omega
    obtain ⟨q, hq⟩ : ∃ q, (r + 1) / 2 = q := ⟨_, rfl⟩
    rw [hq] at hd
    have HQ := Lib.hid hq
    have hq2 : q ≤ 2 := by omega
    clear hr hq
    have hw1 : IntKind.i64.wrap ((r : Int) + 1) = r + 1 := wrap_i64 (by omega) (by omega)
    have hcase : numF m.op = 0 ∨ numF m.op = 110 ∨ numF m.op = 116 ∨ (numF m.op ≠ 0 ∧ numF m.op ≠ 110 ∧ numF m.op ≠ 116) := by
      by_cases h0 : numF m.op = 0
      · exact .inl h0
      by_cases h1 : numF m.op = 110
      · exact .inr (.inl h1)
      by_cases h2 : numF m.op = 116
      · exact .inr (.inr (.inl h2))
      exact .inr (.inr (.inr ⟨h0, h1, h2⟩))
    rcases hcase with h | h | h | ⟨h0, h1, h2⟩
    · have q0 : (((numF m.op).toNat : Int) == 0) = true := by rw [h]; rfl
      have hfin : sizeM m = 1 + (q : Int) := by rw [HS.out, HRL.out, HQ.out, h]; simp
      have HF := Lib.hid hfin
      clear h hfin HS
      go_wp2_with fail
      go_ret
      exact ⟨by rw [HF.out]; rfl, HB2.out⟩
    · have q0 : (((numF m.op).toNat : Int) == 0) = false := by rw [h]; rfl
      have q1 : (((numF m.op).toNat : Int) == 110) = true := by rw [h]; rfl
      have hfin : sizeM m = 1 + (q : Int) + 5 := by rw [HS.out, HRL.out, HQ.out, h]; simp
      have HF := Lib.hid hfin
      clear h hfin HS
      go_wp2_with fail
      go_ret
      exact ⟨by rw [HF.out]; rfl, HB2.out⟩
    · have q0 : (((numF m.op).toNat : Int) == 0) = false := by rw [h]; rfl
      have q1 : (((numF m.op).toNat : Int) == 110) = false := by rw [h]; rfl
      have q3 : (((numF m.op).toNat : Int) == 116) = true := by rw [h]; rfl
      have h65 := shape_116 m HSK.out h
      have hfin : sizeM m = 1 + (q : Int) + 1 + 3 * (m.args.length : Int) := by rw [HS.out, HRL.out, HQ.out, h]; simp; omega
      have HF := Lib.hid hfin
      clear h hfin HS
      go_wp2_with fail
      go_ret
      exact ⟨by rw [HF.out]; rfl, HB2.out⟩
    · have q0 := u8_ne (n := 0) rfl h0
      have q1 := u8_ne (n := 110) rfl h1
      have q3 := u8_ne (n := 116) rfl h2
      have hfin : sizeM m = 1 + (q : Int) + ((widthF (numF m.op) (farOf m)).1 : Int) := by rw [HS.out, HRL.out, HQ.out, if_neg h0, if_neg h1, if_neg h2]
      have HF := Lib.hid hfin
      clear hfin HS
      have hwl := width_le (numF m.op) (farOf m)
      have HWD := Lib.hid (fun W => width_any (numF m.op) (farOf m) W)
      rcases far_cases m with ⟨b1, b2, b3⟩ | ⟨b1, b2, b3⟩ | ⟨b1, b3⟩
      all_goals
        rw [b3] at HF HWD hwl
        clear b3 h0 h1 h2
        generalize (widthF (numF m.op) _) = wd at HF HWD hwl
        obtain ⟨wb, wl, wm⟩ := wd
        dsimp only at HF HWD hwl
        go_wp2_with fail
        refine (HWD.out _).mono ?_
        rintro e w3 ⟨rfl, rfl⟩
        go_wp2_with fail
        go_ret
        exact ⟨by rw [HF.out]; rfl, HB2.out⟩
end Go.Proofs.YtmoplcchiadlpaaDoor.Jc
end
section
set_option linter.unusedVariables false
set_option linter.unusedSimpArgs false
namespace Go.Proofs.YtmoplcchiadlpaaDoor.Jc
open Go Go.RowKit Go.ChangeMaps Go.Proofs.YtmoplcchiadlpaaDoorW.PrintWords

def numTexts (m : M) : List (List UInt8) :=
  if numF m.op = 0 then []
  else if numF m.op = 110 then [Lib.itoa m.args.length, Lib.itoa m.imm]
  else if numF m.op = 101 then (if m.e = 1 then [[114, 48]] else [])
  else if numF m.op = 116 then m.args.map Lib.itoa
  else [Lib.itoa m.imm]
def textParts (m : M) : List (List UInt8) := (nameOf m.op ++ if farOf m then [46, 108] else []) :: ((valsM m).map (fun x => 114 :: Lib.itoa x) ++ numTexts m)
/-- P18.4. -/
def textM (m : M) : List UInt8 := if shapeOk m = false then [] else Lib.join (textParts m) [32]

theorem itoa_any (n : Int) (h : In64 n) (w : World) (htab : Lib.TabIs Tryd.prog w "internal/strconv.uint64pow10" .u64 Lib.pow10Tab) :
    Calls Tryd.prog 53 #[.int .i64 n] w fun e w' => e = .returned (.string (bs (Lib.itoa n))) ∧ Below w.heap.size w w' :=
  (Tryd.strconv_Itoa n h.1 h.2 w htab).mono fun e w' ⟨h1, k, os, h2⟩ => ⟨h1, by
    subst h2
    exact Lib.below_grow _ w (Nat.le_refl _) k os⟩
theorem reg_in (m : M) (h : InR m) (x : UInt8) : In64 (regVal m x) := by
  unfold regVal
  split
  · exact h.d
  split
  · exact h.a
  split
  · exact h.b
  · exact h.c
theorem name_short (op : Int) : (nameOf op).length ≤ 10 := by
  have := info_all (fun _ n _ _ => decide (n.length ≤ 10)) (fun _ => by decide) (by decide +kernel) op
  simpa using this
theorem clip_any (g n c : Nat) (hc : n ≤ c) (hm : c ≤ 9223372036854775807) (w : World) :
    Calls Tryd.prog 55 #[.slice (some ⟨g, 0, none⟩) n c] w fun e w' => e = .returned (.slice (some ⟨g, 0, none⟩) n n) ∧ w = w' := by
  go_enter Tryd.func55, Tryd.ntmps55
  go_wp2_with fail
  go_ret
  exact ⟨rfl, rfl⟩
theorem parts_small (m : M) (hin : InR m) (hs : shapeOk m = true) : (∀ p ∈ textParts m, p.length ≤ 30) ∧ (textParts m).length ≤ 100 := by
  have hI : ∀ n : Int, In64 n → (Lib.itoa n).length ≤ 21 := fun n h => itoa_le n h
  have hn := name_short m.op
  have hr := regs_short m.op
  have himm : In64 m.imm := ⟨by have := hin.imm; omega, by have := hin.imm; omega⟩
  have hnum : (∀ p ∈ numTexts m, p.length ≤ 30) ∧ (numTexts m).length ≤ 90 := by
    unfold numTexts
    split
    · exact ⟨by simp, by simp⟩
    split
    · refine ⟨fun p hp => ?_, by simp⟩
      simp only [List.mem_cons, List.not_mem_nil, or_false] at hp
      rcases hp with rfl | rfl
      · have := hI m.args.length ⟨by omega, by have := hin.few; omega⟩; omega
      · have := hI _ himm; omega
    split
    · split
      · exact ⟨by simp, by simp⟩
      · exact ⟨by simp, by simp⟩
    split
    · rename_i h
      refine ⟨fun p hp => ?_, by have := shape_116 m hs h; simp; omega⟩
      obtain ⟨x, hx, rfl⟩ := List.mem_map.1 hp
      have := hI x (hin.args x hx); omega
    · refine ⟨fun p hp => ?_, by simp⟩
      simp only [List.mem_cons, List.not_mem_nil, or_false] at hp
      subst hp
      have := hI _ himm; omega
  unfold textParts
  refine ⟨fun p hp => ?_, ?_⟩
  · rcases List.mem_cons.1 hp with rfl | hp
    · rw [List.length_append]
      split <;> simp <;> omega
    rcases List.mem_append.1 hp with hp | hp
    · obtain ⟨x, hx, rfl⟩ := List.mem_map.1 hp
      unfold valsM at hx
      obtain ⟨y, _, rfl⟩ := List.mem_map.1 hx
      have := hI _ (reg_in m hin y)
      simp; omega
    · exact hnum.1 p hp
  · have := hnum.2
    have := valsM_length m
    simp only [List.length_cons, List.length_append, List.length_map]
    omega
theorem take_map_snoc (l : List Int) (f : Int → List UInt8) (k : Nat) (h : k < l.length) : (l.take (k + 1)).map f = (l.take k).map f ++ [f (l.getD k 0)] := by
  rw [take_snoc l k 0 h, List.map_append]
  rfl
theorem cells_strs {w : World} {base g n k c : Nat} {l : List (List UInt8)} (h : w.ownsRow base 9 1 (.slice (some ⟨g, 0, none⟩) n c) k (strs l)) : ∀ (j : Nat) x, (l.map bs)[j]? = some x → w.cell? ⟨g, 0 + j, none⟩ = some (.string x) := by
  intro j x hx
  have := h.cells (g := g) rfl j (.string x) (by
    unfold strs
    rw [List.getElem?_map] at hx ⊢
    cases hl : l[j]? with
    | none => rw [hl] at hx; cases hx
    | some p => rw [hl] at hx; cases hx; rfl)
  have hadd : (⟨g, 0, none⟩ : Addr).add j = ⟨g, j, none⟩ := by unfold Addr.add; split <;> simp_all
  rw [hadd] at this
  rw [Nat.zero_add]
  exact this

theorem own_keep {w w1 : World} {base size n : Nat} {e : TypeId} {v : Value} {xs : List Value} (h : w.ownsRow base e size v n xs) (hb : Below w.heap.size w w1) : w1.ownsRow base e size v n xs :=
  h.kept (grown_below hb none) (by cases hv : v.ownBlock <;> simp)
theorem own_first (W : World) (p : List UInt8) : (W.alloc (.cells #[.string (bs p)] 9)).ownsRow W.heap.size 9 1 (.slice (some ⟨W.heap.size, 0, none⟩) 1 1) (strs [p]).length (strs [p]) :=
  World.ownsRow_lit (base := W.heap.size) (e := 9) (size := 1) W #[.string (bs p)] 1 (Nat.le_refl _) (by decide) rfl
def partsTo (m : M) (head : List UInt8) (k : Nat) : List (List UInt8) := head :: ((valsM m).take k).map (fun x => 114 :: Lib.itoa x)
theorem partsTo_length (m : M) (head : List UInt8) (k : Nat) : (partsTo m head k).length ≤ 5 := by
  have h1 := valsM_length m
  have h2 := regs_short m.op
  unfold partsTo
  simp only [List.length_cons, List.length_map, List.length_take]
  omega
theorem partsTo_more (m : M) (head : List UInt8) (k : Nat) (h : k < (regsF m.op).length) : partsTo m head (k + 1) = partsTo m head k ++ [114 :: Lib.itoa ((valsM m).getD k 0)] := by
  unfold partsTo
  rw [take_map_snoc _ _ _ (by rw [valsM_length]; exact h)]
  rfl
theorem parts_all (m : M) (head : List UInt8) (h : head = nameOf m.op ++ if farOf m then [46, 108] else []) (k : Nat) (hk : k = (regsF m.op).length) : textParts m = partsTo m head k ++ numTexts m := by
  unfold textParts partsTo
  rw [List.take_of_length_le (by rw [valsM_length]; omega), h]
  rfl
theorem shape_101 (m : M) (hs : shapeOk m = true) (h : numF m.op = 101) : m.e = 0 ∨ m.e = 1 := by
  have h1 : m.op = 50 := by
    have := info_all (fun op _ f _ => !((splitF f).2 == 101) || op == 50) (fun _ => rfl) (by decide +kernel) m.op
    simp [numF] at this h
    rcases this with h0 | h0
    · exact absurd h h0
    · exact h0
  unfold shapeOk at hs
  rw [if_neg (by omega), if_neg (by omega), if_pos (.inr h1)] at hs
  simp at hs
  exact hs.2
set_option maxRecDepth 100000 in
set_option maxHeartbeats 4000000 in
theorem text_any (m : M) (hin : InR m) (a : Option Addr) (c : Nat) (w : World) (har : ArgsIn w m a c) (htab : Lib.TabIs Tryd.prog w "strings.asciiSpace" .u8 Lib.asciiSpaceTab)
    (hpow : Lib.TabIs Tryd.prog w "internal/strconv.uint64pow10" .u64 Lib.pow10Tab) :
    Calls Tryd.prog 22 #[.agg (cellsM m a c)] w fun e w' => e = .returned (.string (bs (textM m))) ∧ Below w.heap.size w w' := by
  have HT := Lib.hid htab
  have HP := Lib.hid hpow
  have HR := Lib.hid har
  have HIN := Lib.hid hin
  clear har htab hpow hin
  have hshape : ∀ W : World, Below w.heap.size w W → Calls Tryd.prog 32 #[.agg (cellsM m a c)] W fun e w' => e = .returned (.tuple #[.agg #[.string (bs (nameOf m.op)), .string (bs (fieldsOf m.op))], .bool (shapeOk m)]) ∧ Below W.heap.size W w' := fun W hW =>
    shape_any m a c W (HR.out.below hW) (tabIs_below HT.out hW)
  unfold cellsM at hshape ⊢
  have HSH := Lib.hid hshape
  clear hshape
  go_enter Tryd.func22, Tryd.ntmps22
  go_wp2_with fail
  have hb0 := below_alloc (Below.refl w.heap.size w) (.cells #[.int .i64 m.op, .int .i64 m.d, .int .i64 m.e, .int .i64 m.a, .int .i64 m.b, .int .i64 m.c, .int .i32 m.imm, .slice a m.args.length c] 24)
  have hblk := alloc_at w (.cells #[.int .i64 m.op, .int .i64 m.d, .int .i64 m.e, .int .i64 m.a, .int .i64 m.b, .int .i64 m.c, .int .i32 m.imm, .slice a m.args.length c] 24)
  refine (HSH.out _ hb0).mono ?_
  have HBK := Lib.hid hblk
  have hsz := Lib.hid (alloc_size w (.cells #[.int .i64 m.op, .int .i64 m.d, .int .i64 m.e, .int .i64 m.a, .int .i64 m.b, .int .i64 m.c, .int .i32 m.imm, .slice a m.args.length c] 24))
  have hbl := Lib.hid hb0
  clear hb0 hblk
  generalize w.alloc (.cells #[.int .i64 m.op, .int .i64 m.d, .int .i64 m.e, .int .i64 m.a, .int .i64 m.b, .int .i64 m.c, .int .i32 m.imm, .slice a m.args.length c] 24) = W at HBK hsz hbl
  rintro e w1 ⟨rfl, hb1⟩
  have hB : Below w.heap.size w w1 := below_step hbl.out hb1
  have hK : w1.heap[w.heap.size]? = some (.cells #[.int .i64 m.op, .int .i64 m.d, .int .i64 m.e, .int .i64 m.a, .int .i64 m.b, .int .i64 m.c, .int .i32 m.imm, .slice a m.args.length c] 24 (0, 0)) :=
    (hb1.block _ (by have := hsz.out; omega)).trans HBK.out
  have HK1 := Lib.hid hK
  have HB := Lib.hid hB
  clear hB hb1 hK HBK hsz hbl HSH
  cases hsh : shapeOk m
  · have hs : textM m = [] := by unfold textM; rw [if_pos hsh]
    have HS := Lib.hid hs
    clear hs hsh
    go_wp2_with fail
    go_ret
    exact ⟨by rw [HS.out]; rfl, below_alloc HB.out _⟩
  · have HSK := Lib.hid hsh
    clear hsh
    go_wp2_with fail
    refine (split_any (fieldsOf m.op) (by have := fields_short m.op; omega) _).mono ?_
    rintro e w2 ⟨rfl, rfl⟩
    rw [show (splitF (fieldsOf m.op)).2 = numF m.op from rfl, show (splitF (fieldsOf m.op)).1 = regsF m.op from rfl]
    have hK2 := alloc_old (o := (.cells #[.string (bs (nameOf m.op)), .string (bs (fieldsOf m.op))] 54)) HK1.out
    have hB2 := below_alloc HB.out (.cells #[.string (bs (nameOf m.op)), .string (bs (fieldsOf m.op))] 54)
    have hN2 := alloc_at w1 (.cells #[.string (bs (nameOf m.op)), .string (bs (fieldsOf m.op))] 54)
    have hS2 := alloc_size w1 (.cells #[.string (bs (nameOf m.op)), .string (bs (fieldsOf m.op))] 54)
    generalize w1.alloc (.cells #[.string (bs (nameOf m.op)), .string (bs (fieldsOf m.op))] 54) = W2 at hK2 hB2 hN2 hS2 ⊢
    have e2 : W2.cell? ⟨w.heap.size, 2, none⟩ = some (.int .i64 m.e) := (cell_blk hK2 2).trans rfl
    have n0 : W2.cell? ⟨w1.heap.size, 0, none⟩ = some (.string (bs (nameOf m.op))) := (cell_blk hN2 0).trans rfl
    have HK2 := Lib.hid hK2
    have HB2 := Lib.hid hB2
    clear hK2 hB2 hN2 hS2 HB HK1
    obtain ⟨head, hhead⟩ : ∃ h, h = nameOf m.op ++ if farOf m then [46, 108] else [] := ⟨_, rfl⟩
    have hhl : head.length ≤ 12 := by
      have := name_short m.op
      rw [hhead, List.length_append]
      split <;> simp <;> omega
    have HHD := Lib.hid hhead
    have hfx : ∃ x, x = farOf m := ⟨_, rfl⟩
    clear hhead
    go_upto_region 6 with (fail)
    go_cut [33] (fun f w' => f = .bool (farOf m) ∧ W2 = w')
    case first =>
      rcases far_cases m with ⟨b1, b2, b3⟩ | ⟨b1, b2, b3⟩ | ⟨b1, b3⟩
      all_goals
        have B3 := Lib.hid b3
        clear b3
        go_wp2_with fail
        go_meet
        case rel => exact ⟨by rw [B3.out], rfl⟩
    obtain ⟨rfl, rfl⟩ := hcut
    go_upto_if 33 with (fail)
    go_cut [7] (fun f w' => f = .string (bs head) ∧ W2 = w')
    case first =>
      have hnl := name_short m.op
      go_wp2_with fail
      all_goals
        go_meet
        case rel => exact ⟨by rw [HHD.out]; simp [*, bs_append], rfl⟩
    obtain ⟨rfl, rfl⟩ := hcut
    have hsz : (bs (regsF m.op)).size = (regsF m.op).length := bs_size _
    have hL := regs_short m.op
    have hgt := blk_lt' HK2.out
    clear e2 n0 hfx
    go_wp2_with fail
    go_loopw [8, 40] (fun v i wr => ∃ k : Nat, i = .int .i64 (k : Int) ∧ k ≤ (regsF m.op).length ∧ Aside0 (wr.ownsRow W2.heap.size 9 1 v (strs (partsTo m head k)).length (strs (partsTo m head k))) ∧ Aside0 (Below W2.heap.size W2 wr)) (fun _ i _ => (regsF m.op).length - (intOf i).toNat)
    case atStart => exact ⟨0, rfl, by omega, ⟨own_first W2 head⟩, ⟨below_alloc (Below.refl _ _) _⟩⟩
    case round =>
      obtain ⟨k, rfl, hk, HO, HBL⟩ := hrel
      have hBW : Below w.heap.size w wr := HB2.out.trans (HBL.out.mono (by omega))
      have hKr := (HBL.out.block _ hgt).trans HK2.out
      by_cases hlt : k < (regsF m.op).length
      · have hk2 : k < (bs (regsF m.op)).size := by rw [hsz]; exact hlt
        have hx : isReg ((bs (regsF m.op))[k]'hk2) = true := regs_are m.op _ (List.getElem_mem hlt)
        have hvx : (valsM m).getD k 0 = regVal m ((bs (regsF m.op))[k]'hk2) := valsM_at m k hlt
        obtain ⟨off, hoff, hcell⟩ := reg_off m a c _ hx
        have hc1 : wr.cell? ⟨w.heap.size, off.toNat, none⟩ = some (.int .i64 (regVal m ((bs (regsF m.op))[k]'hk2))) := (cell_blk hKr _).trans hcell
        have hin := reg_in m HIN.out ((bs (regsF m.op))[k]'hk2)
        have hit := itoa_any _ hin wr (tabIs_below HP.out hBW)
        have hmore := partsTo_more m head k hlt
        rw [hvx] at hmore
        generalize regVal m ((bs (regsF m.op))[k]'hk2) = X at hc1 hin hit hmore
        have htl := itoa_le X hin
        generalize Lib.itoa X = t at hit htl hmore
        have HIT := Lib.hid hit
        have HM := Lib.hid hmore
        have hpl := partsTo_length m head k
        have hsl := strs_length (partsTo m head k)
        have HOFF := Lib.hid hoff
        have HBW := Lib.hid hBW
        clear hit hmore hoff hvx hx hcell hin hBW hKr
        go_wp2_with fail
        refine (register_at w.heap.size _ off HOFF.out _).mono ?_
        rintro e w3 ⟨rfl, rfl⟩
        go_wp2_with fail
        refine HIT.out.mono ?_
        rintro e wq ⟨rfl, hq⟩
        have hOq := own_keep HO.out hq
        have hBq := below_step HBL.out hq
        have HOq := Lib.hid hOq
        have HBq := Lib.hid hBq
        clear hOq hBq HO HBL
        go_wp2_with (at_builtin; refine app_lits W2.heap.size rfl (.tmp 43) (.tmp 52) 76 9 (.string ⟨#[]⟩) 16 rfl Tryd.underlying76 info_str rfl (by decide) _ (strs (partsTo m head k)) [_] 1 1 rfl rfl (by simp) (by simp; rfl) HOq.out HBq.out HBq.out.size (by omega) ?_; intro v1 w1 hown hB)
        go_roundw
        case rel => exact ⟨k + 1, by go_num, by omega, ⟨by rw [HM.out, strs_append]; simpa [strs, bs_append] using hown⟩, ⟨hB⟩⟩
        case measure => simp [intOf]; omega
      · obtain ⟨hall⟩ : Nonempty (textParts m = partsTo m head k ++ numTexts m) := ⟨parts_all m head HHD.out k (by omega)⟩
        have hpl := partsTo_length m head k
        have hsl := strs_length (partsTo m head k)
        have HALL := Lib.hid hall
        have e2 : wr.cell? ⟨w.heap.size, 2, none⟩ = some (.int .i64 m.e) := (cell_blk hKr 2).trans rfl
        have e6 : wr.cell? ⟨w.heap.size, 6, none⟩ = some (.int .i32 m.imm) := (cell_blk hKr 6).trans rfl
        have e7 : wr.cell? ⟨w.heap.size, 7, none⟩ = some (.slice a m.args.length c) := (cell_blk hKr 7).trans rfl
        have himm := HIN.out.imm
        have hwi : IntKind.i64.wrap m.imm = m.imm := wrap_i64 (by omega) (by omega)
        have HBW := Lib.hid hBW
        have HKR := Lib.hid hKr
        generalize hPP : partsTo m head k = parts at HO HALL hpl hsl
        clear hall hBW hKr hPP
        go_upto_block 2 with (fail)
        go_cut [8] (fun v w' => Aside0 (w'.ownsRow W2.heap.size 9 1 v (strs (textParts m)).length (strs (textParts m))) ∧ Aside0 (Below W2.heap.size W2 w'))
        case first =>
          by_cases h0 : numF m.op = 0
          · have q0 : (((numF m.op).toNat : Int) == 0) = true := by rw [h0]; rfl
            have hn : numTexts m = [] := if_pos h0
            have HN := Lib.hid hn
            clear hn h0
            go_wp2_with fail
            go_meet
            case rel => exact ⟨⟨by rw [HALL.out, HN.out, List.append_nil]; exact HO.out⟩, HBL⟩
          by_cases h1 : numF m.op = 110
          · have q0 := u8_ne (n := 0) rfl h0
            have q1 : (((numF m.op).toNat : Int) == 110) = true := by rw [h1]; rfl
            have hn : numTexts m = [Lib.itoa m.args.length, Lib.itoa m.imm] := (if_neg h0).trans (if_pos h1)
            have hfew := HIN.out.few
            have hi : ∀ (n : Int) (W : World), In64 n → Below w.heap.size w W → Calls Tryd.prog 53 #[.int .i64 n] W fun e w' => e = .returned (.string (bs (Lib.itoa n))) ∧ Below W.heap.size W w' := fun n W h hW => itoa_any n h W (tabIs_below HP.out hW)
            have hl1 : In64 (m.args.length : Int) := ⟨by omega, by omega⟩
            have hl2 : In64 m.imm := ⟨by omega, by omega⟩
            have HI := Lib.hid hi
            have HL1 := Lib.hid hl1
            have HL2 := Lib.hid hl2
            have HN := Lib.hid hn
            clear hn h0 h1 hi hl1 hl2
            go_wp2_with fail
            go_region_law (first
              | (refine step_app_lits W2.heap.size rfl (.tmp 67) (.tmp 76) 76 9 (.string ⟨#[]⟩) 16 rfl Tryd.underlying76 info_str rfl (by decide) _ (strs parts) [_, _] 2 2 rfl rfl (by simp) (by simp; exact ⟨rfl, rfl⟩) HO.out HBL.out HBL.out.size (by omega) ?_; intro v1 w1 hown hB)
              | (go_simp; go_at_call 53; refine (HI.out _ _ (by first | exact HL1.out | exact HL2.out) (by first | exact HBW.out | exact below_drewR HBW.out)).mono ?_; rintro e wp ⟨rfl, hp⟩; (have HO := Lib.hid (own_keep HO.out (by first | exact below_drewN_left hp | exact below_drew_left hp | exact hp))); (have HBL := Lib.hid (below_step HBL.out (by first | exact below_drewN_left hp | exact below_drew_left hp | exact hp))); (have HBW := Lib.hid (below_step HBW.out (by first | exact below_drewN_left hp | exact below_drew_left hp | exact hp))); (have HKR := Lib.hid ((hp.block _ (blk_lt' HKR.out)).trans HKR.out)); (have e6 : wp.cell? ⟨w.heap.size, 6, none⟩ = some (.int .i32 m.imm) := (cell_blk HKR.out 6).trans rfl); clear hp))
            all_goals
              go_wp2_with fail
              go_meet
              case rel => exact ⟨⟨by rw [HALL.out, HN.out, strs_append]; exact hown⟩, ⟨hB⟩⟩
          by_cases h2 : numF m.op = 101
          · have q0 := u8_ne (n := 0) rfl h0
            have q1 := u8_ne (n := 110) rfl h1
            have q2 : (((numF m.op).toNat : Int) == 101) = true := by rw [h2]; rfl
            have hn : numTexts m = if m.e = 1 then [[114, 48]] else [] := (if_neg h0).trans ((if_neg h1).trans (if_pos h2))
            rcases shape_101 m HSK.out h2 with he | he
            · rw [he] at e2 hn
              have e2o : ∀ o, (wr.alloc o).cell? ⟨w.heap.size, 2, none⟩ = some (.int .i64 m.e) := fun o => (cell_blk (alloc_old (o := o) HKR.out) 2).trans rfl
              rw [he] at e2o
              have HN := Lib.hid hn
              clear hn h0 h1 h2 he
              go_wp2_with (at_builtin; refine app_lits W2.heap.size rfl (.tmp 80) (.tmp 84) 76 9 (.string ⟨#[]⟩) 16 rfl Tryd.underlying76 info_str rfl (by decide) _ (strs parts) [_] 0 1 rfl rfl (by simp) (by simp; rfl) HO.out HBL.out HBL.out.size (by omega) ?_; intro v1 w1 hown hB)
              go_meet
              case rel => exact ⟨⟨by rw [HALL.out, HN.out, strs_append]; exact hown⟩, ⟨hB⟩⟩
            · rw [he] at e2 hn
              have e2o : ∀ o, (wr.alloc o).cell? ⟨w.heap.size, 2, none⟩ = some (.int .i64 m.e) := fun o => (cell_blk (alloc_old (o := o) HKR.out) 2).trans rfl
              rw [he] at e2o
              have HN := Lib.hid hn
              clear hn h0 h1 h2 he
              go_wp2_with (at_builtin; refine app_lits W2.heap.size rfl (.tmp 80) (.tmp 84) 76 9 (.string ⟨#[]⟩) 16 rfl Tryd.underlying76 info_str rfl (by decide) _ (strs parts) [_] 1 1 rfl rfl (by simp) (by simp; rfl) HO.out HBL.out HBL.out.size (by omega) ?_; intro v1 w1 hown hB)
              go_meet
              case rel => exact ⟨⟨by rw [HALL.out, HN.out, strs_append]; exact hown⟩, ⟨hB⟩⟩
          by_cases h3 : numF m.op = 116
          · have q0 := u8_ne (n := 0) rfl h0
            have q1 := u8_ne (n := 110) rfl h1
            have q2 := u8_ne (n := 101) rfl h2
            have q3 : (((numF m.op).toNat : Int) == 116) = true := by rw [h3]; rfl
            have hn : numTexts m = m.args.map Lib.itoa := (if_neg h0).trans ((if_neg h1).trans ((if_neg h2).trans (if_pos h3)))
            have h65 := shape_116 m HSK.out h3
            have HN := Lib.hid hn
            have hi : ∀ (n : Int) (W : World), In64 n → Below w.heap.size w W → Calls Tryd.prog 53 #[.int .i64 n] W fun e w' => e = .returned (.string (bs (Lib.itoa n))) ∧ Below W.heap.size W w' := fun n W h hW => itoa_any n h W (tabIs_below HP.out hW)
            have HI := Lib.hid hi
            clear hn h0 h1 h2 h3 hi
            have HO6 := Lib.hid (show wr.ownsRow W2.heap.size 9 1 _ (strs (parts ++ (m.args.take 0).map Lib.itoa)).length (strs (parts ++ (m.args.take 0).map Lib.itoa)) by simpa using HO.out)
            go_wp2_with fail
            go_loopw [8, 91] (fun v i wl => ∃ j : Nat, i = .int .i64 (j : Int) ∧ j ≤ m.args.length ∧ Aside0 (wl.ownsRow W2.heap.size 9 1 v (strs (parts ++ (m.args.take j).map Lib.itoa)).length (strs (parts ++ (m.args.take j).map Lib.itoa))) ∧ Aside0 (Below W2.heap.size W2 wl)) (fun _ i _ => m.args.length - (intOf i).toNat)
            case atStart => exact ⟨0, rfl, by omega, ⟨HO6.out⟩, HBL⟩
            case round =>
              clear HO HBL HBW HO6 e2 e6 e7 HKR
              obtain ⟨j, rfl, hj, HO, HBL⟩ := hrel
              have hBW : Below w.heap.size w wr := HB2.out.trans (HBL.out.mono (by omega))
              by_cases hlt : j < m.args.length
              · obtain ⟨ad, ha, hcs⟩ := (HR.out.below hBW).reads.2.2 (by omega)
                have hcell := hcs j hlt
                have hin : In64 (m.args.getD j 0) := HIN.out.args _ (by
                  rw [List.getD_eq_getElem?_getD, List.getElem?_eq_getElem hlt]
                  exact List.getElem_mem hlt)
                have HM := Lib.hid (take_map_snoc m.args Lib.itoa j hlt)
                have hsl : (strs (parts ++ (m.args.take j).map Lib.itoa)).length ≤ 100 := by
                  rw [strs_length, List.length_append, List.length_map, List.length_take]
                  omega
                have HBW := Lib.hid hBW
                clear hcs hBW
                subst ha
                generalize m.args.getD j 0 = X at hcell hin HM
                have HX := Lib.hid hin
                clear hin
                go_wp2_with fail
                refine (HI.out _ _ HX.out HBW.out).mono ?_
                rintro e wq ⟨rfl, hq⟩
                have HOq := Lib.hid (own_keep HO.out hq)
                have HBq := Lib.hid (below_step HBL.out hq)
                clear HO HBL hq
                go_wp2_with (at_builtin; refine app_lits W2.heap.size rfl (.tmp 95) (.tmp 98) 76 9 (.string ⟨#[]⟩) 16 rfl Tryd.underlying76 info_str rfl (by decide) _ (strs (parts ++ (m.args.take j).map Lib.itoa)) [_] 1 1 rfl rfl (by simp) (by simp; rfl) HOq.out HBq.out HBq.out.size (by omega) ?_; intro v1 w1 hown hB)
                go_roundw
                case rel => exact ⟨j + 1, by go_num, by omega, ⟨by rw [HM.out, ← List.append_assoc, strs_append]; exact hown⟩, ⟨hB⟩⟩
                case measure => simp [intOf]; omega
              · obtain rfl : j = m.args.length := by omega
                go_wp2_with fail
                go_meet
                case rel => exact ⟨⟨by rw [HALL.out, HN.out, show m.args.map Lib.itoa = (m.args.take m.args.length).map Lib.itoa by rw [List.take_length]]; exact HO.out⟩, HBL⟩
          · have q0 := u8_ne (n := 0) rfl h0
            have q1 := u8_ne (n := 110) rfl h1
            have q2 := u8_ne (n := 101) rfl h2
            have q3 := u8_ne (n := 116) rfl h3
            have hn : numTexts m = [Lib.itoa m.imm] := (if_neg h0).trans ((if_neg h1).trans ((if_neg h2).trans (if_neg h3)))
            have hi2 := fun W hW => itoa_any m.imm ⟨by omega, by omega⟩ W (tabIs_below HP.out hW)
            generalize Lib.itoa m.imm = t2 at hn hi2
            have HI2 := Lib.hid hi2
            have HN := Lib.hid hn
            clear hn h0 h1 h2 h3 hi2
            go_wp2_with fail
            refine (HI2.out _ HBW.out).mono ?_
            rintro e wp ⟨rfl, hp⟩
            have hOp := own_keep HO.out hp
            have hBp := below_step HBL.out hp
            have HOp := Lib.hid hOp
            have HBp := Lib.hid hBp
            clear hOp hBp HO HBL hp
            go_wp2_with (at_builtin; refine app_lits W2.heap.size rfl (.tmp 56) (.tmp 61) 76 9 (.string ⟨#[]⟩) 16 rfl Tryd.underlying76 info_str rfl (by decide) _ (strs parts) [_] 1 1 rfl rfl (by simp) (by simp; rfl) HOp.out HBp.out HBp.out.size (by omega) ?_; intro v1 w1 hown hB)
            go_meet
            case rel => exact ⟨⟨by rw [HALL.out, HN.out, strs_append]; exact hown⟩, ⟨hB⟩⟩
        obtain ⟨HOF, HBF⟩ := hcut
        have hps := parts_small m HIN.out HSK.out
        have hpos : 0 < (strs (textParts m)).length := by rw [strs_length]; unfold textParts; simp
        obtain ⟨g, cap, rfl, hg1, hg2⟩ := HOF.out.form hpos
        have hcap : (strs (textParts m)).length ≤ cap ∧ cap ≤ 9223372036854775807 := by
          rcases HOF.out.2 with ⟨h, _⟩ | ⟨g', cap', cur, h, _, _, h1, h2, _⟩
          · cases h
          · cases h
            exact ⟨h1, h2⟩
        have hjl : (Lib.join (textParts m) [32]).length ≤ 140737488355328 := by
          have h1 := join_le (textParts m) 30 hps.1
          have h2 := Nat.mul_le_mul_right 31 hps.2
          omega
        have hfin : textM m = Lib.join (textParts m) [32] := by unfold textM; rw [if_neg (by rw [HSK.out]; simp)]
        have hmap : ((textParts m).map bs).map (·.data.toList) = textParts m := by
          rw [List.map_map]
          exact List.map_id _
        have hJ := Tryd.strings_Join g 0 (strs (textParts m)).length ((textParts m).map bs) ⟨#[32]⟩ wc (cells_strs HOF.out) hg2 (by rw [List.length_map]; have := hps.2; omega) (by rw [List.length_map, strs_length]; exact Nat.le_refl _) (by rw [hmap]; exact hjl)
        rw [hmap, List.length_map, ← strs_length (textParts m)] at hJ
        have hBF : Below w.heap.size w wc := HB2.out.trans (HBF.out.mono (by omega))
        have HJ := Lib.hid hJ
        have HBF2 := Lib.hid hBF
        have HF := Lib.hid hfin
        have HC := Lib.hid (fun W => clip_any g (strs (textParts m)).length cap hcap.1 hcap.2 W)
        generalize (strs (textParts m)).length = n at HJ HC hcap hpos
        clear hps hjl hfin hmap hJ hBF e2 e6 e7 HO HBL HOF HBF
        go_wp2_with fail
        refine (HC.out _).mono ?_
        rintro e wx ⟨rfl, rfl⟩
        go_wp2_with fail
        refine HJ.out.mono ?_
        rintro e wx ⟨rfl, hx⟩
        go_wp2_with fail
        go_ret
        exact ⟨by rw [HF.out]; rfl, below_step HBF2.out hx⟩
end Go.Proofs.YtmoplcchiadlpaaDoor.Jc
end
