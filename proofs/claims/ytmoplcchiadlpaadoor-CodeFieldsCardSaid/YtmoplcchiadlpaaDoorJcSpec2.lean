/- Chapter 18 in plain Lean: the registers of an instruction, two a byte. -/
import Derived.Test.YtmoplcchiadlpaaDoorJcSpec
import Derived.Test.YtmoplcchiadlpaaDoorJcMem
set_option linter.unusedVariables false
set_option linter.unusedSimpArgs false
namespace Go.Proofs.YtmoplcchiadlpaaDoor.Jc
open Go

def valsM (m : M) : List Int := (regsF m.op).map (regVal m)
theorem valsM_length (m : M) : (valsM m).length = (regsF m.op).length := by simp [valsM]
theorem valsM_at (m : M) (k : Nat) (h : k < (regsF m.op).length) : (valsM m).getD k 0 = regVal m ((regsF m.op)[k]'h) := by
  simp [valsM, List.getD_eq_getElem?_getD, h]

theorem all_take_snoc (l : List Int) (k : Nat) (h : k < l.length) : (l.take (k + 1)).all regOk = ((l.take k).all regOk && regOk (l.getD k 0)) := by
  rw [take_snoc l k 0 h, List.all_append]
  simp
theorem all_of_take (l : List Int) (k : Nat) (h : (l.take k).all regOk = false) : l.all regOk = false := by
  rw [← List.take_append_drop k l, List.all_append, h]
  rfl
theorem put_reg (m : M) (k : Nat) (hs : shapeOk m = true) (h : ((valsM m).take k).all regOk = false) : put m = .error 31 := by
  unfold put
  rw [if_neg (by rw [hs]; simp)]
  exact if_pos (all_of_take _ k h)
theorem pairs_two (l : List Int) (k : Nat) (h : k + 1 < l.length) (he : k % 2 = 0) : pairs (l.take (k + 2)) = pairs (l.take k) ++ [byteAt (16 * l.getD k 0 + l.getD (k + 1) 0) 0] := by
  rw [take_snoc l (k + 1) 0 h, take_snoc l k 0 (by omega), List.append_assoc, pairs_append _ _ (by rw [List.length_take]; omega)]
  rfl
theorem pairs_last (l : List Int) (k : Nat) (h : k + 1 = l.length) (he : k % 2 = 0) : pairs (l.take (k + 2)) = pairs (l.take k) ++ [byteAt (16 * l.getD k 0 + 0) 0] := by
  have e : l.take (k + 2) = l.take k ++ [l.getD k 0] := by
    rw [← take_snoc l k 0 (by omega), List.take_of_length_le (show l.length ≤ k + 2 by omega), List.take_of_length_le (show l.length ≤ k + 1 by omega)]
  rw [e, pairs_append _ _ (by rw [List.length_take]; omega), Int.add_zero]
  rfl
theorem reg_off (m : M) (a : Option Addr) (c : Nat) (x : UInt8) (h : isReg x = true) : ∃ off : Int, (((x.toNat : Int) = 68 ∧ off = 1) ∨ ((x.toNat : Int) = 65 ∧ off = 3) ∨ ((x.toNat : Int) = 66 ∧ off = 4) ∨ ((x.toNat : Int) = 67 ∧ off = 5)) ∧
    (cellsM m a c)[off.toNat]? = some (.int .i64 (regVal m x)) := by
  unfold isReg at h
  simp only [Bool.or_eq_true, beq_iff_eq] at h
  rcases h with ((h | h) | h) | h
  · exact ⟨1, .inl ⟨by rw [h]; rfl, rfl⟩, by rw [h]; rfl⟩
  · exact ⟨3, .inr (.inl ⟨by rw [h]; rfl, rfl⟩), by rw [h]; rfl⟩
  · exact ⟨4, .inr (.inr (.inl ⟨by rw [h]; rfl, rfl⟩)), by rw [h]; rfl⟩
  · exact ⟨5, .inr (.inr (.inr ⟨by rw [h]; rfl, rfl⟩)), by rw [h]; rfl⟩
theorem regOk_iff (x : Int) : regOk x = true ↔ 0 ≤ x ∧ x < 16 := by simp [regOk]
theorem pairs_le : ∀ l : List Int, (pairs l).length ≤ l.length
  | [] => by simp [pairs]
  | [x] => by simp [pairs]
  | x :: y :: l => by
    have := pairs_le l
    simp [pairs]
    omega
theorem bs_size (l : List UInt8) : (bs l).size = l.length := by simp [ByteArray.size]
theorem head_size (m : M) (k : Nat) : (bs (headB m :: pairs ((valsM m).take k))).size ≤ 100 := by
  rw [bs_size]
  have h1 := pairs_le ((valsM m).take k)
  have h2 := List.length_take_le k (valsM m)
  have h3 := valsM_length m
  have h4 := regs_short m.op
  have h5 := List.length_take_le' k (valsM m)
  simp
  omega
theorem pairs_short (m : M) (k : Nat) : (pairs (List.take k (valsM m))).length ≤ 99 := by
  have h := head_size m k
  rw [bs_size] at h
  simp at h
  omega
theorem wrap_i64 {n : Int} (h1 : -9223372036854775808 ≤ n) (h2 : n ≤ 9223372036854775807) : IntKind.i64.wrap n = n := by
  simp [IntKind.wrap, IntKind.bits, IntKind.signed]
  omega
/-- Two registers, one of which is none of sixteen. -/
theorem not_ok {X Y : Int} (h : ¬ (0 ≤ X ∧ X < 16 ∧ 0 ≤ Y ∧ Y < 16)) : decide (0 ≤ X) = false ∨ (decide (0 ≤ X) = true ∧ decide (X < 16) = false) ∨ (decide (0 ≤ X) = true ∧ decide (X < 16) = true ∧ decide (0 ≤ Y) = false) ∨ (decide (0 ≤ X) = true ∧ decide (X < 16) = true ∧ decide (0 ≤ Y) = true ∧ decide (Y < 16) = false) := by
  simp only [decide_eq_true_eq, decide_eq_false_iff_not]
  omega
end Go.Proofs.YtmoplcchiadlpaaDoor.Jc
