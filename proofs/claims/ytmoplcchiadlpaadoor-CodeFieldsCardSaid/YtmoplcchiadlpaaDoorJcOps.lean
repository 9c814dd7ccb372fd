/- code.ops: the table, as a map that the call makes. -/
import Derived.Test.YtmoplcchiadlpaaDoorJcMap
import Derived.Test.YtmoplcchiadlpaaDoorJcTab
import Derived.Test.YtmoplcchiadlpaaDoorShelf
import Derived.Test.YtmoplcchiadlpaaDoorWWords
import Derived.WalkLawsBesides
import Derived.WalkSpells
set_option linter.unusedVariables false
set_option linter.unusedSimpArgs false
namespace Go.Proofs.YtmoplcchiadlpaaDoor.Jc
open Go Go.RowKit Go.ChangeMaps Go.Proofs.YtmoplcchiadlpaaDoorW.PrintWords

/-- The table as the map's entries. -/
def opVal (x : List UInt8 × List UInt8) : Value := .agg #[.string ⟨x.1.toArray⟩, .string ⟨x.2.toArray⟩]
def asEnts (l : List (Int × List UInt8 × List UInt8)) : List (Int × Value) := l.map fun p => (p.1, opVal p.2)

-- GEN
theorem build0 (W : World) : (Instr.build 96 #[(0, .int .i64 1), (1, (.string ⟨#[109, 111, 118]⟩)), (2, (.string ⟨#[68, 65]⟩))]).run Tryd.prog W = .ok (.agg #[.int .i64 1, (.string ⟨#[109, 111, 118]⟩), (.string ⟨#[68, 65]⟩)]) W := by kernel_rfl
theorem build1 (W : World) : (Instr.build 96 #[(0, .int .i64 2), (1, (.string ⟨#[115, 119, 97, 112]⟩)), (2, (.string ⟨#[65, 66]⟩))]).run Tryd.prog W = .ok (.agg #[.int .i64 2, (.string ⟨#[115, 119, 97, 112]⟩), (.string ⟨#[65, 66]⟩)]) W := by kernel_rfl
theorem build2 (W : World) : (Instr.build 96 #[(0, .int .i64 3), (1, (.string ⟨#[108, 105]⟩)), (2, (.string ⟨#[68, 104]⟩))]).run Tryd.prog W = .ok (.agg #[.int .i64 3, (.string ⟨#[108, 105]⟩), (.string ⟨#[68, 104]⟩)]) W := by kernel_rfl
theorem build3 (W : World) : (Instr.build 96 #[(0, .int .i64 4), (1, (.string ⟨#[108, 105, 119]⟩)), (2, (.string ⟨#[68, 119]⟩))]).run Tryd.prog W = .ok (.agg #[.int .i64 4, (.string ⟨#[108, 105, 119]⟩), (.string ⟨#[68, 119]⟩)]) W := by kernel_rfl
theorem build4 (W : World) : (Instr.build 96 #[(0, .int .i64 5), (1, (.string ⟨#[97, 100, 100, 32, 115, 117, 98, 32, 109, 117, 108, 32, 97, 110, 100, 32, 111, 114, 32, 120, 111, 114, 32, 115, 104, 108, 32, 115, 104, 114, 32, 115, 97, 114, 32, 101, 113, 32, 108, 116, 32, 108, 116, 117, 32, 100, 105, 118]⟩)), (2, (.string ⟨#[68, 65, 66]⟩))]).run Tryd.prog W = .ok (.agg #[.int .i64 5, (.string ⟨#[97, 100, 100, 32, 115, 117, 98, 32, 109, 117, 108, 32, 97, 110, 100, 32, 111, 114, 32, 120, 111, 114, 32, 115, 104, 108, 32, 115, 104, 114, 32, 115, 97, 114, 32, 101, 113, 32, 108, 116, 32, 108, 116, 117, 32, 100, 105, 118]⟩), (.string ⟨#[68, 65, 66]⟩)]) W := by kernel_rfl
theorem build5 (W : World) : (Instr.build 96 #[(0, .int .i64 18), (1, (.string ⟨#[97, 100, 100, 105, 32, 97, 110, 100, 105]⟩)), (2, (.string ⟨#[68, 65, 105]⟩))]).run Tryd.prog W = .ok (.agg #[.int .i64 18, (.string ⟨#[97, 100, 100, 105, 32, 97, 110, 100, 105]⟩), (.string ⟨#[68, 65, 105]⟩)]) W := by kernel_rfl
theorem build6 (W : World) : (Instr.build 96 #[(0, .int .i64 20), (1, (.string ⟨#[115, 104, 108, 105, 32, 115, 104, 114, 105, 32, 115, 97, 114, 105]⟩)), (2, (.string ⟨#[68, 65, 115]⟩))]).run Tryd.prog W = .ok (.agg #[.int .i64 20, (.string ⟨#[115, 104, 108, 105, 32, 115, 104, 114, 105, 32, 115, 97, 114, 105]⟩), (.string ⟨#[68, 65, 115]⟩)]) W := by kernel_rfl
theorem build7 (W : World) : (Instr.build 96 #[(0, .int .i64 23), (1, (.string ⟨#[109, 97, 100, 100]⟩)), (2, (.string ⟨#[68, 65, 66, 67]⟩))]).run Tryd.prog W = .ok (.agg #[.int .i64 23, (.string ⟨#[109, 97, 100, 100]⟩), (.string ⟨#[68, 65, 66, 67]⟩)]) W := by kernel_rfl
theorem build8 (W : World) : (Instr.build 96 #[(0, .int .i64 24), (1, (.string ⟨#[108, 100]⟩)), (2, (.string ⟨#[68, 65, 117]⟩))]).run Tryd.prog W = .ok (.agg #[.int .i64 24, (.string ⟨#[108, 100]⟩), (.string ⟨#[68, 65, 117]⟩)]) W := by kernel_rfl
theorem build9 (W : World) : (Instr.build 96 #[(0, .int .i64 25), (1, (.string ⟨#[108, 100, 120]⟩)), (2, (.string ⟨#[68, 65, 66]⟩))]).run Tryd.prog W = .ok (.agg #[.int .i64 25, (.string ⟨#[108, 100, 120]⟩), (.string ⟨#[68, 65, 66]⟩)]) W := by kernel_rfl
theorem build10 (W : World) : (Instr.build 96 #[(0, .int .i64 26), (1, (.string ⟨#[115, 116]⟩)), (2, (.string ⟨#[65, 66, 117]⟩))]).run Tryd.prog W = .ok (.agg #[.int .i64 26, (.string ⟨#[115, 116]⟩), (.string ⟨#[65, 66, 117]⟩)]) W := by kernel_rfl
theorem build11 (W : World) : (Instr.build 96 #[(0, .int .i64 27), (1, (.string ⟨#[115, 116, 120]⟩)), (2, (.string ⟨#[65, 66, 67]⟩))]).run Tryd.prog W = .ok (.agg #[.int .i64 27, (.string ⟨#[115, 116, 120]⟩), (.string ⟨#[65, 66, 67]⟩)]) W := by kernel_rfl
theorem build12 (W : World) : (Instr.build 96 #[(0, .int .i64 28), (1, (.string ⟨#[99, 97, 108, 108]⟩)), (2, (.string ⟨#[110, 119]⟩))]).run Tryd.prog W = .ok (.agg #[.int .i64 28, (.string ⟨#[99, 97, 108, 108]⟩), (.string ⟨#[110, 119]⟩)]) W := by kernel_rfl
theorem build13 (W : World) : (Instr.build 96 #[(0, .int .i64 29), (1, (.string ⟨#[109, 117, 108, 119]⟩)), (2, (.string ⟨#[65, 66]⟩))]).run Tryd.prog W = .ok (.agg #[.int .i64 29, (.string ⟨#[109, 117, 108, 119]⟩), (.string ⟨#[65, 66]⟩)]) W := by kernel_rfl
theorem build14 (W : World) : (Instr.build 96 #[(0, .int .i64 30), (1, (.string ⟨#[115, 108, 100]⟩)), (2, (.string ⟨#[68, 112]⟩))]).run Tryd.prog W = .ok (.agg #[.int .i64 30, (.string ⟨#[115, 108, 100]⟩), (.string ⟨#[68, 112]⟩)]) W := by kernel_rfl
theorem build15 (W : World) : (Instr.build 96 #[(0, .int .i64 31), (1, (.string ⟨#[115, 115, 116]⟩)), (2, (.string ⟨#[65, 112]⟩))]).run Tryd.prog W = .ok (.agg #[.int .i64 31, (.string ⟨#[115, 115, 116]⟩), (.string ⟨#[65, 112]⟩)]) W := by kernel_rfl
theorem build16 (W : World) : (Instr.build 96 #[(0, .int .i64 40), (1, (.string ⟨#[106]⟩)), (2, (.string ⟨#[98]⟩))]).run Tryd.prog W = .ok (.agg #[.int .i64 40, (.string ⟨#[106]⟩), (.string ⟨#[98]⟩)]) W := by kernel_rfl
theorem build17 (W : World) : (Instr.build 96 #[(0, .int .i64 41), (1, (.string ⟨#[98, 110, 122, 32, 98, 122]⟩)), (2, (.string ⟨#[65, 98]⟩))]).run Tryd.prog W = .ok (.agg #[.int .i64 41, (.string ⟨#[98, 110, 122, 32, 98, 122]⟩), (.string ⟨#[65, 98]⟩)]) W := by kernel_rfl
theorem build18 (W : World) : (Instr.build 96 #[(0, .int .i64 43), (1, (.string ⟨#[98, 101, 113, 32, 98, 110, 101, 32, 98, 108, 116, 32, 98, 103, 101, 32, 98, 108, 116, 117, 32, 98, 103, 101, 117]⟩)), (2, (.string ⟨#[65, 66, 98]⟩))]).run Tryd.prog W = .ok (.agg #[.int .i64 43, (.string ⟨#[98, 101, 113, 32, 98, 110, 101, 32, 98, 108, 116, 32, 98, 103, 101, 32, 98, 108, 116, 117, 32, 98, 103, 101, 117]⟩), (.string ⟨#[65, 66, 98]⟩)]) W := by kernel_rfl
theorem build19 (W : World) : (Instr.build 96 #[(0, .int .i64 49), (1, (.string ⟨#[106, 116]⟩)), (2, (.string ⟨#[65, 116]⟩))]).run Tryd.prog W = .ok (.agg #[.int .i64 49, (.string ⟨#[106, 116]⟩), (.string ⟨#[65, 116]⟩)]) W := by kernel_rfl
theorem build20 (W : World) : (Instr.build 96 #[(0, .int .i64 50), (1, (.string ⟨#[114, 101, 116]⟩)), (2, (.string ⟨#[101]⟩))]).run Tryd.prog W = .ok (.agg #[.int .i64 50, (.string ⟨#[114, 101, 116]⟩), (.string ⟨#[101]⟩)]) W := by kernel_rfl
theorem build21 (W : World) : (Instr.build 96 #[(0, .int .i64 51), (1, (.string ⟨#[116, 114, 97, 112]⟩)), (2, (.string ⟨#[119]⟩))]).run Tryd.prog W = .ok (.agg #[.int .i64 51, (.string ⟨#[116, 114, 97, 112]⟩), (.string ⟨#[119]⟩)]) W := by kernel_rfl
def rowCells : Array Value := #[.int .i64 1, (.string ⟨#[109, 111, 118]⟩), (.string ⟨#[68, 65]⟩), .int .i64 2, (.string ⟨#[115, 119, 97, 112]⟩), (.string ⟨#[65, 66]⟩), .int .i64 3, (.string ⟨#[108, 105]⟩), (.string ⟨#[68, 104]⟩), .int .i64 4, (.string ⟨#[108, 105, 119]⟩), (.string ⟨#[68, 119]⟩), .int .i64 5, (.string ⟨#[97, 100, 100, 32, 115, 117, 98, 32, 109, 117, 108, 32, 97, 110, 100, 32, 111, 114, 32, 120, 111, 114, 32, 115, 104, 108, 32, 115, 104, 114, 32, 115, 97, 114, 32, 101, 113, 32, 108, 116, 32, 108, 116, 117, 32, 100, 105, 118]⟩), (.string ⟨#[68, 65, 66]⟩), .int .i64 18, (.string ⟨#[97, 100, 100, 105, 32, 97, 110, 100, 105]⟩), (.string ⟨#[68, 65, 105]⟩), .int .i64 20, (.string ⟨#[115, 104, 108, 105, 32, 115, 104, 114, 105, 32, 115, 97, 114, 105]⟩), (.string ⟨#[68, 65, 115]⟩), .int .i64 23, (.string ⟨#[109, 97, 100, 100]⟩), (.string ⟨#[68, 65, 66, 67]⟩), .int .i64 24, (.string ⟨#[108, 100]⟩), (.string ⟨#[68, 65, 117]⟩), .int .i64 25, (.string ⟨#[108, 100, 120]⟩), (.string ⟨#[68, 65, 66]⟩), .int .i64 26, (.string ⟨#[115, 116]⟩), (.string ⟨#[65, 66, 117]⟩), .int .i64 27, (.string ⟨#[115, 116, 120]⟩), (.string ⟨#[65, 66, 67]⟩), .int .i64 28, (.string ⟨#[99, 97, 108, 108]⟩), (.string ⟨#[110, 119]⟩), .int .i64 29, (.string ⟨#[109, 117, 108, 119]⟩), (.string ⟨#[65, 66]⟩), .int .i64 30, (.string ⟨#[115, 108, 100]⟩), (.string ⟨#[68, 112]⟩), .int .i64 31, (.string ⟨#[115, 115, 116]⟩), (.string ⟨#[65, 112]⟩), .int .i64 40, (.string ⟨#[106]⟩), (.string ⟨#[98]⟩), .int .i64 41, (.string ⟨#[98, 110, 122, 32, 98, 122]⟩), (.string ⟨#[65, 98]⟩), .int .i64 43, (.string ⟨#[98, 101, 113, 32, 98, 110, 101, 32, 98, 108, 116, 32, 98, 103, 101, 32, 98, 108, 116, 117, 32, 98, 103, 101, 117]⟩), (.string ⟨#[65, 66, 98]⟩), .int .i64 49, (.string ⟨#[106, 116]⟩), (.string ⟨#[65, 116]⟩), .int .i64 50, (.string ⟨#[114, 101, 116]⟩), (.string ⟨#[101]⟩), .int .i64 51, (.string ⟨#[116, 114, 97, 112]⟩), (.string ⟨#[119]⟩)]
theorem buildRows (W : World) : (Instr.buildSlice 97 22 #[(0, .agg #[.int .i64 1, (.string ⟨#[109, 111, 118]⟩), (.string ⟨#[68, 65]⟩)]), (1, .agg #[.int .i64 2, (.string ⟨#[115, 119, 97, 112]⟩), (.string ⟨#[65, 66]⟩)]), (2, .agg #[.int .i64 3, (.string ⟨#[108, 105]⟩), (.string ⟨#[68, 104]⟩)]), (3, .agg #[.int .i64 4, (.string ⟨#[108, 105, 119]⟩), (.string ⟨#[68, 119]⟩)]), (4, .agg #[.int .i64 5, (.string ⟨#[97, 100, 100, 32, 115, 117, 98, 32, 109, 117, 108, 32, 97, 110, 100, 32, 111, 114, 32, 120, 111, 114, 32, 115, 104, 108, 32, 115, 104, 114, 32, 115, 97, 114, 32, 101, 113, 32, 108, 116, 32, 108, 116, 117, 32, 100, 105, 118]⟩), (.string ⟨#[68, 65, 66]⟩)]), (5, .agg #[.int .i64 18, (.string ⟨#[97, 100, 100, 105, 32, 97, 110, 100, 105]⟩), (.string ⟨#[68, 65, 105]⟩)]), (6, .agg #[.int .i64 20, (.string ⟨#[115, 104, 108, 105, 32, 115, 104, 114, 105, 32, 115, 97, 114, 105]⟩), (.string ⟨#[68, 65, 115]⟩)]), (7, .agg #[.int .i64 23, (.string ⟨#[109, 97, 100, 100]⟩), (.string ⟨#[68, 65, 66, 67]⟩)]), (8, .agg #[.int .i64 24, (.string ⟨#[108, 100]⟩), (.string ⟨#[68, 65, 117]⟩)]), (9, .agg #[.int .i64 25, (.string ⟨#[108, 100, 120]⟩), (.string ⟨#[68, 65, 66]⟩)]), (10, .agg #[.int .i64 26, (.string ⟨#[115, 116]⟩), (.string ⟨#[65, 66, 117]⟩)]), (11, .agg #[.int .i64 27, (.string ⟨#[115, 116, 120]⟩), (.string ⟨#[65, 66, 67]⟩)]), (12, .agg #[.int .i64 28, (.string ⟨#[99, 97, 108, 108]⟩), (.string ⟨#[110, 119]⟩)]), (13, .agg #[.int .i64 29, (.string ⟨#[109, 117, 108, 119]⟩), (.string ⟨#[65, 66]⟩)]), (14, .agg #[.int .i64 30, (.string ⟨#[115, 108, 100]⟩), (.string ⟨#[68, 112]⟩)]), (15, .agg #[.int .i64 31, (.string ⟨#[115, 115, 116]⟩), (.string ⟨#[65, 112]⟩)]), (16, .agg #[.int .i64 40, (.string ⟨#[106]⟩), (.string ⟨#[98]⟩)]), (17, .agg #[.int .i64 41, (.string ⟨#[98, 110, 122, 32, 98, 122]⟩), (.string ⟨#[65, 98]⟩)]), (18, .agg #[.int .i64 43, (.string ⟨#[98, 101, 113, 32, 98, 110, 101, 32, 98, 108, 116, 32, 98, 103, 101, 32, 98, 108, 116, 117, 32, 98, 103, 101, 117]⟩), (.string ⟨#[65, 66, 98]⟩)]), (19, .agg #[.int .i64 49, (.string ⟨#[106, 116]⟩), (.string ⟨#[65, 116]⟩)]), (20, .agg #[.int .i64 50, (.string ⟨#[114, 101, 116]⟩), (.string ⟨#[101]⟩)]), (21, .agg #[.int .i64 51, (.string ⟨#[116, 114, 97, 112]⟩), (.string ⟨#[119]⟩)])]).run Tryd.prog W = .ok (.slice (some ⟨W.heap.size, 0, none⟩) 22 22) (W.alloc (.cells rowCells 96)) := by kernel_rfl
-- END GEN
theorem rowCells_at : ∀ k, k < 22 → rowCells[3 * k]? = some (.int .i64 (rows.getD k (0, [], [])).1) ∧ rowCells[3 * k + 1]? = some (.string ⟨(rows.getD k (0, [], [])).2.1.toArray⟩) ∧ rowCells[3 * k + 2]? = some (.string ⟨(rows.getD k (0, [], [])).2.2.toArray⟩) := by
  intro k hk
  match k, hk with
  | 0, _ | 1, _ | 2, _ | 3, _ | 4, _ | 5, _ | 6, _ | 7, _ | 8, _ | 9, _ | 10, _ | 11, _ | 12, _ | 13, _ | 14, _ | 15, _ | 16, _ | 17, _ | 18, _ | 19, _ | 20, _ | 21, _ => exact ⟨rfl, rfl, rfl⟩
  | n + 22, h => omega

theorem look_asEnts (k : Int) (l : List (Int × List UInt8 × List UInt8)) : look k (asEnts l) = (info k l).map opVal := by
  induction l with
  | nil => rfl
  | cons p r ih =>
    unfold asEnts at ih ⊢
    by_cases h : k = p.1
    · simp [look, info, h]
    · simp [look, info, h, ih]
theorem asEnts_snoc (l : List (Int × List UInt8 × List UInt8)) (p : Int × List UInt8 × List UInt8) : asEnts (l ++ [p]) = asEnts l ++ [(p.1, opVal p.2)] := by simp [asEnts]
theorem grown_cells {w w' : World} {B b : Nat} {cs : Array Value} {t : TypeId} {fr : Nat × Nat} (h : w.heap[b]? = some (.cells cs t fr)) (hg : w.grownBy w' (some B)) (hne : b ≠ B) : w'.heap[b]? = some (.cells cs t fr) :=
  (hg.block b (Array.getElem?_eq_some_iff.1 h).1 (by simpa using hne)).trans h
theorem cell_of_heap {w : World} {b i : Nat} {cs : Array Value} {t : TypeId} {fr : Nat × Nat} (h : w.heap[b]? = some (.cells cs t fr)) : w.cell? ⟨b, i, none⟩ = cs[i]? := by simp [World.cell?, h]

set_option maxRecDepth 100000 in
set_option maxHeartbeats 4000000 in
theorem ops_any (w : World) (htab0 : Lib.TabIs Tryd.prog w "strings.asciiSpace" .u8 Lib.asciiSpaceTab) :
    Calls Tryd.prog 45 #[] w fun e w' => e = .returned (.map (some w.heap.size)) ∧ IsMap w' w.heap.size (asEnts tab) ∧ Below w.heap.size w w' := by
  have htab := Lib.hid htab0
  clear htab0
  have hmm := @run_makeMap Tryd.prog
  have b0 := build0; have b1 := build1; have b2 := build2; have b3 := build3; have b4 := build4; have b5 := build5; have b6 := build6; have b7 := build7; have b8 := build8; have b9 := build9; have b10 := build10
  have b11 := build11; have b12 := build12; have b13 := build13; have b14 := build14; have b15 := build15; have b16 := build16; have b17 := build17; have b18 := build18; have b19 := build19; have b20 := build20; have b21 := build21
  have br := buildRows
  go_enter Tryd.func45, Tryd.ntmps45
  go_wp2_with fail
  clear b0 b1 b2 b3 b4 b5 b6 b7 b8 b9 b10 b11 b12 b13 b14 b15 b16 b17 b18 b19 b20 b21 br
  go_loopw [32] (fun i wr => ∃ k : Nat, k ≤ 22 ∧ i = .int .i64 k ∧ Aside0 (IsMap wr w.heap.size (asEnts (tabTo k))) ∧ Aside0 (wr.heap[w.heap.size + 1]? = some (.cells rowCells 96 (0, 0))) ∧ Aside0 (Below w.heap.size w wr)) (fun i _ => 22 - (intOf i).toNat)
  case atStart => exact ⟨0, by omega, rfl, ⟨((IsMap.new w).alloc _)⟩, ⟨by have h := heap_alloc_new (w.alloc (.map #[] 0)) (.cells rowCells 96); rw [show (w.alloc (.map #[] 0)).heap.size = w.heap.size + 1 by simp] at h; exact h⟩, ⟨((Below.refl _ _).alloc (Nat.le_refl _) _).alloc (by simp) _⟩⟩
  case round =>
    obtain ⟨k, hk, rfl, HM, HA, HB⟩ := hrel
    by_cases hlt : k < 22
    · obtain ⟨c0, c1, c2⟩ := rowCells_at k hlt
      have hasc := ascii_at k hlt
      obtain ⟨s1, s2, s3, s4⟩ := short_at k hlt
      have hfr := Aside0.mk (fresh_at k hlt)
      have hsucc := Aside0.mk (tabTo_succ k hlt)
      generalize hr : rows.getD k (0, [], []) = r at *
      clear hr
      obtain ⟨F, nm, fl⟩ := r
      have hb1 : w.heap.size + 1 < wr.heap.size := (Array.getElem?_eq_some_iff.1 HA.out).1
      have e0 : wr.cell? ⟨w.heap.size + 1, k * 3, none⟩ = some (.int .i64 F) := by rw [cell_of_heap HA.out, Nat.mul_comm]; exact c0
      have e1 : wr.cell? ⟨w.heap.size + 1, k * 3 + 1, none⟩ = some (.string ⟨nm.toArray⟩) := by rw [cell_of_heap HA.out, Nat.mul_comm]; exact c1
      have e2 : wr.cell? ⟨w.heap.size + 1, k * 3 + 2, none⟩ = some (.string ⟨fl.toArray⟩) := by rw [cell_of_heap HA.out, Nat.mul_comm]; exact c2
      clear c0 c1 c2
      dsimp only at s1 s2 s3 s4
      have hF : ∀ W : World, Lib.TabIs Tryd.prog W "strings.asciiSpace" .u8 Lib.asciiSpaceTab → Calls Tryd.prog 70 #[.string ⟨nm.toArray⟩] W fun e w' =>
          e = .returned (.slice (some ⟨W.heap.size, 0, none⟩) (Lib.fields nm).length (Lib.fields nm).length) ∧ w' = W.alloc (.cells ((Lib.fields nm).map fun l => Value.string ⟨l.toArray⟩).toArray 9) :=
        fun W ht => Tryd.strings_Fields_laid ⟨nm.toArray⟩ W (by show nm.toArray.size < _; simp; omega) (fun j b h => hasc b (List.mem_of_getElem? h)) ht
      clear hasc
      have HF := Lib.hid hF
      clear hF
      go_wp2_with fail
      refine (HF.out _ ?_).mono ?_
      · exact tabIs_below htab.out (HB.out.alloc (by omega) _)
      rintro e w1 ⟨rfl, rfl⟩
      go_wp2_with fail
      obtain ⟨wo, rfl⟩ : ∃ wo : World, wo = wr := ⟨_, rfl⟩
      go_loopw [2, 42] (fun a i wr => ∃ j : Nat, j ≤ (Lib.fields nm).length ∧ a = .int .i64 (F + (j : Int)) ∧ i = .int .i64 j ∧ Aside0 (IsMap wr w.heap.size (asEnts (tabTo k ++ rowPart (F, nm, fl) j))) ∧
          Aside0 (wr.heap[w.heap.size + 1]? = some (.cells rowCells 96 (0, 0))) ∧
          Aside0 (wr.heap[wo.heap.size]? = some (.cells #[.int .i64 F, .string ⟨nm.toArray⟩, .string ⟨fl.toArray⟩] 96 (0, 0))) ∧
          Aside0 (wr.heap[wo.heap.size + 1]? = some (.cells ((Lib.fields nm).map fun l => Value.string ⟨l.toArray⟩).toArray 9 (0, 0))) ∧ Aside0 (Below w.heap.size w wr)) (fun _ i _ => (Lib.fields nm).length - (intOf i).toNat)
      case atStart =>
        refine ⟨0, by omega, by simp, rfl, ⟨?_⟩, ⟨?_⟩, ⟨?_⟩, ⟨?_⟩, ⟨?_⟩⟩
        · simpa [rowPart] using ((HM.out.alloc _).alloc _)
        · exact (heap_alloc_old _ _ (by simp; omega)).trans ((heap_alloc_old _ _ (by omega)).trans HA.out)
        · exact (heap_alloc_old _ _ (by simp)).trans (heap_alloc_new _ _)
        · have h := heap_alloc_new (wo.alloc (.cells #[.int .i64 F, .string ⟨nm.toArray⟩, .string ⟨fl.toArray⟩] 96)) (.cells ((Lib.fields nm).map fun l => Value.string ⟨l.toArray⟩).toArray 9)
          rw [World.size_alloc] at h
          exact h
        · exact (HB.out.alloc (by omega) _).alloc (by simp; omega) _
      case round =>
        obtain ⟨j, hj, rfl, rfl, HM2, HA2, HV2, HN2, HB2⟩ := hrel
        by_cases hlt2 : j < (Lib.fields nm).length
        · have hcn : wr.cell? ⟨wo.heap.size + 1, j, none⟩ = some (.string ⟨((Lib.fields nm).getD j []).toArray⟩) := by
            rw [cell_of_heap HN2.out]
            simp [List.getD_eq_getElem?_getD, hlt2]
          have hcv : wr.cell? ⟨wo.heap.size, 2, none⟩ = some (.string ⟨fl.toArray⟩) := by rw [cell_of_heap HV2.out]; rfl
          have hk2 : look (F + (j : Int)) (asEnts (tabTo k ++ rowPart (F, nm, fl) j)) = none := by rw [look_asEnts, hfr.out j hlt2]; rfl
          have HK2 := Lib.hid hk2
          clear hk2
          have hsn := Lib.hid (rowPart_succ (F, nm, fl) j hlt2)
          go_wp2_with (at_mapUpdate; refine wpList_update_new Tryd.underlying67 Tryd.underlying3 _ rfl _ _ _ rfl w.heap.size _ rfl HM2.out _ _ rfl rfl HK2.out ?_; intro w1 hm1 hg1)
          go_roundw
          case rel =>
            have hwo : w.heap.size < wo.heap.size := by omega
            refine ⟨j + 1, by omega, by go_num, by go_num, ⟨?_⟩, ⟨grown_cells HA2.out hg1 (by omega)⟩, ⟨grown_cells HV2.out hg1 (by omega)⟩, ⟨grown_cells HN2.out hg1 (by omega)⟩, ⟨HB2.out.grown hg1 HB2.out.size (fun k h => by cases h; exact Nat.le_refl _)⟩⟩
            rw [hsn.out, ← List.append_assoc, asEnts_snoc]
            have e : (Lib.fields nm).getD j [] = (Lib.fields nm)[j] := by simp [List.getD_eq_getElem?_getD, hlt2]
            dsimp only
            rw [e]
            exact hm1
          case measure => simp [intOf]; omega
        · obtain rfl : j = (Lib.fields nm).length := by omega
          go_wp2_with fail
          go_roundw
          case rel =>
            refine ⟨k + 1, by omega, by go_num, ⟨?_⟩, HA2, HB2⟩
            rw [hsucc.out]; exact HM2.out
          case measure => simp [intOf]; omega
    · obtain rfl : k = 22 := by omega
      go_wp2_with fail
      go_ret
      refine ⟨rfl, ?_, HB.out⟩
      have h := HM.out
      rwa [tabTo_all] at h

/-- The same, the map's block a letter. -/
theorem ops_some (w : World) (htab0 : Lib.TabIs Tryd.prog w "strings.asciiSpace" .u8 Lib.asciiSpaceTab) :
    Calls Tryd.prog 45 #[] w fun e w' => ∃ B, e = .returned (.map (some B)) ∧ IsMap w' B (asEnts tab) ∧ Below w.heap.size w w' :=
  (ops_any w htab0).mono fun _ _ ⟨h1, h2, h3⟩ => ⟨_, h1, h2, h3⟩
end Go.Proofs.YtmoplcchiadlpaaDoor.Jc
