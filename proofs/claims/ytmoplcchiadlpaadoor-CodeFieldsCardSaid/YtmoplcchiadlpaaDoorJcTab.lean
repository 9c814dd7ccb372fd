/- The table of package code's instructions: its rows as the program's text has them, and, number by number, what comes of them. Plain Lean. -/
import Derived.Lib.Fields
set_option linter.unusedVariables false
set_option linter.unusedSimpArgs false
namespace Go.Proofs.YtmoplcchiadlpaaDoor.Jc
open Go

/-- A row: the first number, the names with blanks between, the fields. -/
def rows : List (Int × List UInt8 × List UInt8) := [(1, [109, 111, 118], [68, 65]),
  (2, [115, 119, 97, 112], [65, 66]),
  (3, [108, 105], [68, 104]),
  (4, [108, 105, 119], [68, 119]),
  (5, [97, 100, 100, 32, 115, 117, 98, 32, 109, 117, 108, 32, 97, 110, 100, 32, 111, 114, 32, 120, 111, 114, 32, 115, 104, 108, 32, 115, 104, 114, 32, 115, 97, 114, 32, 101, 113, 32, 108, 116, 32, 108, 116, 117, 32, 100, 105, 118], [68, 65, 66]),
  (18, [97, 100, 100, 105, 32, 97, 110, 100, 105], [68, 65, 105]),
  (20, [115, 104, 108, 105, 32, 115, 104, 114, 105, 32, 115, 97, 114, 105], [68, 65, 115]),
  (23, [109, 97, 100, 100], [68, 65, 66, 67]),
  (24, [108, 100], [68, 65, 117]),
  (25, [108, 100, 120], [68, 65, 66]),
  (26, [115, 116], [65, 66, 117]),
  (27, [115, 116, 120], [65, 66, 67]),
  (28, [99, 97, 108, 108], [110, 119]),
  (29, [109, 117, 108, 119], [65, 66]),
  (30, [115, 108, 100], [68, 112]),
  (31, [115, 115, 116], [65, 112]),
  (40, [106], [98]),
  (41, [98, 110, 122, 32, 98, 122], [65, 98]),
  (43, [98, 101, 113, 32, 98, 110, 101, 32, 98, 108, 116, 32, 98, 103, 101, 32, 98, 108, 116, 117, 32, 98, 103, 101, 117], [65, 66, 98]),
  (49, [106, 116], [65, 116]),
  (50, [114, 101, 116], [101]),
  (51, [116, 114, 97, 112], [119])]

/-- All instructions: number, name, fields. -/
def tab : List (Int × List UInt8 × List UInt8) := [(1, [109, 111, 118], [68, 65]),
  (2, [115, 119, 97, 112], [65, 66]),
  (3, [108, 105], [68, 104]),
  (4, [108, 105, 119], [68, 119]),
  (5, [97, 100, 100], [68, 65, 66]),
  (6, [115, 117, 98], [68, 65, 66]),
  (7, [109, 117, 108], [68, 65, 66]),
  (8, [97, 110, 100], [68, 65, 66]),
  (9, [111, 114], [68, 65, 66]),
  (10, [120, 111, 114], [68, 65, 66]),
  (11, [115, 104, 108], [68, 65, 66]),
  (12, [115, 104, 114], [68, 65, 66]),
  (13, [115, 97, 114], [68, 65, 66]),
  (14, [101, 113], [68, 65, 66]),
  (15, [108, 116], [68, 65, 66]),
  (16, [108, 116, 117], [68, 65, 66]),
  (17, [100, 105, 118], [68, 65, 66]),
  (18, [97, 100, 100, 105], [68, 65, 105]),
  (19, [97, 110, 100, 105], [68, 65, 105]),
  (20, [115, 104, 108, 105], [68, 65, 115]),
  (21, [115, 104, 114, 105], [68, 65, 115]),
  (22, [115, 97, 114, 105], [68, 65, 115]),
  (23, [109, 97, 100, 100], [68, 65, 66, 67]),
  (24, [108, 100], [68, 65, 117]),
  (25, [108, 100, 120], [68, 65, 66]),
  (26, [115, 116], [65, 66, 117]),
  (27, [115, 116, 120], [65, 66, 67]),
  (28, [99, 97, 108, 108], [110, 119]),
  (29, [109, 117, 108, 119], [65, 66]),
  (30, [115, 108, 100], [68, 112]),
  (31, [115, 115, 116], [65, 112]),
  (40, [106], [98]),
  (41, [98, 110, 122], [65, 98]),
  (42, [98, 122], [65, 98]),
  (43, [98, 101, 113], [65, 66, 98]),
  (44, [98, 110, 101], [65, 66, 98]),
  (45, [98, 108, 116], [65, 66, 98]),
  (46, [98, 103, 101], [65, 66, 98]),
  (47, [98, 108, 116, 117], [65, 66, 98]),
  (48, [98, 103, 101, 117], [65, 66, 98]),
  (49, [106, 116], [65, 116]),
  (50, [114, 101, 116], [101]),
  (51, [116, 114, 97, 112], [119])]

/-- What a row adds, when so many of its names are gone over. -/
def rowPart (r : Int × List UInt8 × List UInt8) (j : Nat) : List (Int × List UInt8 × List UInt8) := ((Lib.fields r.2.1).zipIdx.take j).map fun x => (r.1 + x.2, x.1, r.2.2)
def tabTo (k : Nat) : List (Int × List UInt8 × List UInt8) := (rows.take k).flatMap fun r => rowPart r (Lib.fields r.2.1).length

theorem rows_length : rows.length = 22 := rfl
theorem tabTo_all : tabTo 22 = tab := by decide +kernel
theorem tabTo_succ (k : Nat) (h : k < 22) : tabTo (k + 1) = tabTo k ++ rowPart (rows.getD k (0, [], [])) (Lib.fields (rows.getD k (0, [], [])).2.1).length := by
  have hk : k < rows.length := by rw [rows_length]; exact h
  unfold tabTo
  rw [List.take_succ_eq_append_getElem hk, List.flatMap_append]
  simp [List.getD_eq_getElem?_getD, List.getElem?_eq_getElem hk]
theorem rowPart_succ (r : Int × List UInt8 × List UInt8) (j : Nat) (h : j < (Lib.fields r.2.1).length) : rowPart r (j + 1) = rowPart r j ++ [(r.1 + j, (Lib.fields r.2.1).getD j [], r.2.2)] := by
  unfold rowPart
  rw [List.take_succ_eq_append_getElem (by simpa using h)]
  simp [List.getD_eq_getElem?_getD, List.getElem?_eq_getElem h]

/-- An instruction's name and fields, by its number. -/
def info (op : Int) : List (Int × List UInt8 × List UInt8) → Option (List UInt8 × List UInt8)
  | [] => none
  | p :: r => if op = p.1 then some p.2 else info op r

/-- No number comes twice. -/
theorem fresh_at : ∀ k, k < 22 → ∀ j, j < (Lib.fields (rows.getD k (0, [], [])).2.1).length → info ((rows.getD k (0, [], [])).1 + (j : Int)) (tabTo k ++ rowPart (rows.getD k (0, [], [])) j) = none := by
  decide +kernel
theorem ascii_at : ∀ k, k < 22 → ∀ b ∈ (rows.getD k (0, [], [])).2.1, b.toNat < 128 := by decide +kernel
theorem short_at : ∀ k, k < 22 → (rows.getD k (0, [], [])).2.1.length < 100 ∧ (Lib.fields (rows.getD k (0, [], [])).2.1).length < 100 ∧ 0 ≤ (rows.getD k (0, [], [])).1 ∧ (rows.getD k (0, [], [])).1 < 100 := by decide +kernel
end Go.Proofs.YtmoplcchiadlpaaDoor.Jc
