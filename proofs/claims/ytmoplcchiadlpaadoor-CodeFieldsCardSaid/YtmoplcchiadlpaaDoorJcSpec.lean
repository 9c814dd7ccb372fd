/- Chapter 18, said in plain Lean: what an instruction's bytes are, how many, its text; what bytes tell. No program in sight. -/
import Derived.Test.YtmoplcchiadlpaaDoorJcTab
set_option linter.unusedVariables false
set_option linter.unusedSimpArgs false
namespace Go.Proofs.YtmoplcchiadlpaaDoor.Jc
open Go

/-- An instruction. -/
structure M where
  op : Int
  d : Int
  e : Int
  a : Int
  b : Int
  c : Int
  imm : Int
  args : List Int

def fieldsOf (op : Int) : List UInt8 := ((info op tab).getD ([], [])).2
def nameOf (op : Int) : List UInt8 := ((info op tab).getD ([], [])).1
def known (op : Int) : Bool := (info op tab).isSome

def isReg (x : UInt8) : Bool := x == 68 || x == 65 || x == 66 || x == 67
def regVal (m : M) (x : UInt8) : Int := if x = 68 then m.d else if x = 65 then m.a else if x = 66 then m.b else m.c

/-- Fields, parted: registers, and the number's letter (0: none). -/
def splitGo : List UInt8 → List UInt8 → UInt8 → List UInt8 × UInt8
  | [], regs, num => (regs, num)
  | x :: r, regs, num => if isReg x then splitGo r (regs ++ [x]) num else if x = 110 then (regs, x) else splitGo r regs x
def splitF (f : List UInt8) : List UInt8 × UInt8 := splitGo f [] 0
def regsF (op : Int) : List UInt8 := (splitF (fieldsOf op)).1
def numF (op : Int) : UInt8 := (splitF (fieldsOf op)).2

/-- Are the numbers 0, 1, ..? -/
def counts : Int → List Int → Bool
  | _, [] => true
  | n, x :: r => x == n && counts (n + 1) r

def shapeOk (m : M) : Bool :=
  known m.op &&
    (if m.op = 28 then counts 0 m.args && decide (m.args.length ≤ 4) && m.d == 0
     else if m.op = 29 then m.d == 0 && m.e == 1
     else if numF m.op = 98 ∨ m.op = 50 then m.e == 0 || m.e == 1
     else if numF m.op = 116 then decide (2 ≤ m.args.length) && decide (m.args.length ≤ 65)
     else true)

/-- The byte of a number that is so many places up; so many bytes, the highest first. -/
def byteAt (n : Int) (k : Nat) : UInt8 := UInt8.ofNat ((n / 256 ^ k) % 256).toNat
def numB (n : Int) : Nat → List UInt8
  | 0 => []
  | k + 1 => byteAt n k :: numB n k

/-- How many bytes a number has, the least and the greatest one. -/
def widthF (x : UInt8) (far : Bool) : Nat × Int × Int :=
  if x = 104 then (2, -32768, 32767) else if x = 119 then (4, -2147483648, 2147483647) else if x = 105 then (1, -128, 127)
  else if x = 115 then (1, 0, 31) else if x = 117 then (1, 0, 255) else if x = 112 then (2, 0, 16383) else if x = 110 then (1, 0, 4) else if x = 101 then (1, 0, 1)
  else if far = true ∨ x = 116 then (3, -8388608, 8388607) else (1, -128, 127)

def regOk (x : Int) : Bool := decide (0 ≤ x) && decide (x < 16)
def pairs : List Int → List UInt8
  | [] => []
  | [x] => [byteAt (16 * x) 0]
  | x :: y :: r => byteAt (16 * x + y) 0 :: pairs r

def fitsB (n : Int) (x : UInt8) (far : Bool) (e : Int) : Except Int (List UInt8) :=
  if (widthF x far).2.1 ≤ n ∧ n ≤ (widthF x far).2.2 then .ok (numB n (widthF x far).1) else .error e
def tableB : List Int → Except Int (List UInt8)
  | [] => .ok []
  | x :: r => match fitsB x 116 false 61, tableB r with
    | .ok s, .ok t => .ok (s ++ t)
    | .error e, _ => .error e
    | .ok _, .error e => .error e

def farOf (m : M) : Bool := decide (numF m.op = 98) && m.e == 1
def headB (m : M) : UInt8 := byteAt (m.op + if farOf m then 128 else 0) 0

/-- An instruction's number, in bytes. -/
def numPart (m : M) : Except Int (List UInt8) :=
  if numF m.op = 0 then .ok []
  else if numF m.op = 110 then .ok (numB m.args.length 1 ++ numB m.imm 4)
  else if numF m.op = 101 then .ok (numB m.e 1)
  else if numF m.op = 116 then (match tableB m.args with | .ok s => .ok (numB m.args.length 1 ++ s) | .error e => .error e)
  else if numF m.op = 98 then fitsB m.imm 98 (farOf m) 61
  else fitsB m.imm (numF m.op) (farOf m) 32

/-- P18.1. -/
def put (m : M) : Except Int (List UInt8) :=
  if shapeOk m = false then .error 30
  else if ((regsF m.op).map (regVal m)).all regOk = false then .error 31
  else match numPart m with
    | .ok s => .ok (headB m :: (pairs ((regsF m.op).map (regVal m)) ++ s))
    | .error e => .error e

/-- P18.3. -/
def sizeM (m : M) : Int :=
  if shapeOk m = false then 0
  else 1 + ((((regsF m.op).length + 1) / 2 : Nat) : Int) +
    (if numF m.op = 0 then 0 else if numF m.op = 110 then 5 else if numF m.op = 116 then 1 + 3 * (m.args.length : Int) else ((widthF (numF m.op) (farOf m)).1 : Int))

theorem info_mem {op : Int} {x : List UInt8 × List UInt8} : ∀ {l : List (Int × List UInt8 × List UInt8)}, info op l = some x → (op, x) ∈ l
  | [], h => by cases h
  | p :: r, h => by
    unfold info at h
    split at h
    · rename_i e
      cases h
      subst e
      exact List.mem_cons_self
    · exact List.mem_cons_of_mem _ (info_mem h)

/-- What holds of all rows of the table, and of what has no row, holds of each number. -/
theorem info_all (P : Int → List UInt8 → List UInt8 → Bool → Bool) (h0 : ∀ op, P op [] [] false = true) (h : ∀ p ∈ tab, P p.1 p.2.1 p.2.2 true = true) (op : Int) : P op (nameOf op) (fieldsOf op) (known op) = true := by
  unfold nameOf fieldsOf known
  cases hi : info op tab with
  | none => exact h0 op
  | some x => exact h _ (info_mem hi)

theorem has_b (op : Int) : decide (0 ≤ Lib.indexByte (fieldsOf op) 98) = decide (numF op = 98) := by
  have := info_all (fun _ _ f _ => decide (0 ≤ Lib.indexByte f 98) == decide ((splitF f).2 = 98)) (fun _ => by decide) (by decide +kernel) op
  exact eq_of_beq this
theorem has_t (op : Int) : decide (0 ≤ Lib.indexByte (fieldsOf op) 116) = decide (numF op = 116) := by
  have := info_all (fun _ _ f _ => decide (0 ≤ Lib.indexByte f 116) == decide ((splitF f).2 = 116)) (fun _ => by decide) (by decide +kernel) op
  exact eq_of_beq this
theorem known_28 : known 28 = true := by decide +kernel
theorem known_29 : known 29 = true := by decide +kernel
theorem known_50 : known 50 = true := by decide +kernel
theorem known_of_num (op : Int) (h : numF op ≠ 0) : known op = true := by
  have := info_all (fun _ _ f k => (splitF f).2 == 0 || k) (fun _ => by decide) (by decide +kernel) op
  simp only [Bool.or_eq_true, beq_iff_eq] at this
  exact this.resolve_left h

theorem counts_snoc : ∀ (l : List Int) (n x : Int), counts n (l ++ [x]) = (counts n l && x == n + l.length)
  | [], n, x => by simp [counts]
  | y :: r, n, x => by
    simp only [List.cons_append, counts, counts_snoc r (n + 1) x, List.length_cons]
    rw [Bool.and_assoc]
    congr 2
    have : n + 1 + (r.length : Int) = n + ((r.length + 1 : Nat) : Int) := by omega
    rw [this]
theorem take_snoc {α : Type} (l : List α) (k : Nat) (d : α) (h : k < l.length) : l.take (k + 1) = l.take k ++ [l.getD k d] := by
  rw [List.take_succ_eq_append_getElem h]
  simp [List.getD_eq_getElem?_getD, List.getElem?_eq_getElem h]
theorem counts_take (l : List Int) (k : Nat) (h : k < l.length) : counts 0 (l.take (k + 1)) = (counts 0 (l.take k) && l.getD k 0 == (k : Int)) := by
  rw [take_snoc l k 0 h, counts_snoc, List.length_take, Nat.min_eq_left (Nat.le_of_lt h)]
  simp

theorem pairs_append : ∀ (l r : List Int), l.length % 2 = 0 → pairs (l ++ r) = pairs l ++ pairs r
  | [], r, _ => rfl
  | [x], r, h => by simp at h
  | x :: y :: l, r, h => by
    have := pairs_append l r (by simp at h; omega)
    simp [pairs, this]
theorem regs_short (op : Int) : (regsF op).length ≤ 4 := by
  have := info_all (fun _ _ f _ => decide ((splitF f).1.length ≤ 4)) (fun _ => by decide) (by decide +kernel) op
  simpa [regsF] using this
theorem regs_are (op : Int) : ∀ x ∈ regsF op, isReg x = true := by
  have := info_all (fun _ _ f _ => (splitF f).1.all isReg) (fun _ => by decide) (by decide +kernel) op
  simpa [regsF] using this
theorem fields_short (op : Int) : (fieldsOf op).length ≤ 4 := by
  have := info_all (fun _ _ f _ => decide (f.length ≤ 4)) (fun _ => by decide) (by decide +kernel) op
  simpa using this
theorem nums_are (op : Int) : numF op = 0 ∨ numF op = 110 ∨ numF op = 101 ∨ numF op = 116 ∨ numF op = 98 ∨ numF op = 104 ∨ numF op = 119 ∨ numF op = 105 ∨ numF op = 115 ∨ numF op = 117 ∨ numF op = 112 := by
  have := info_all (fun _ _ f _ => decide ((splitF f).2 = 0 ∨ (splitF f).2 = 110 ∨ (splitF f).2 = 101 ∨ (splitF f).2 = 116 ∨ (splitF f).2 = 98 ∨ (splitF f).2 = 104 ∨ (splitF f).2 = 119 ∨ (splitF f).2 = 105 ∨ (splitF f).2 = 115 ∨ (splitF f).2 = 117 ∨ (splitF f).2 = 112)) (fun _ => by decide) (by decide +kernel) op
  simpa [numF] using this
theorem op_known (op : Int) (h : known op = true) : 1 ≤ op ∧ op ≤ 51 := by
  unfold known at h
  obtain ⟨x, hx⟩ := Option.isSome_iff_exists.1 h
  have := (by decide +kernel : ∀ p ∈ tab, 1 ≤ p.1 ∧ p.1 ≤ 51) _ (info_mem hx)
  exact this
end Go.Proofs.YtmoplcchiadlpaaDoor.Jc
