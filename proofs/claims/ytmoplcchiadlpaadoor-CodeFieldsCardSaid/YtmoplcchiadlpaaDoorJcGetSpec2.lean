/- Chapter 18 in plain Lean: registers that are read. -/
import Derived.Test.YtmoplcchiadlpaaDoorJcGetSpec
set_option linter.unusedVariables false
set_option linter.unusedSimpArgs false
namespace Go.Proofs.YtmoplcchiadlpaaDoor.Jc
open Go Go.RowKit Go.ChangeMaps Go.Proofs.YtmoplcchiadlpaaDoorW.PrintWords

theorem reg_off2 (x : UInt8) (h : isReg x = true) : ∃ off : Int, (((x.toNat : Int) = 68 ∧ off = 1) ∨ ((x.toNat : Int) = 65 ∧ off = 3) ∨ ((x.toNat : Int) = 66 ∧ off = 4) ∨ ((x.toNat : Int) = 67 ∧ off = 5)) ∧
    ∀ (m : M) (a : Option Addr) (c : Nat), (cellsM m a c)[off.toNat]? = some (.int .i64 (regVal m x)) ∧ ∀ v, (cellsM m a c).setIfInBounds off.toNat (.int .i64 v) = cellsM (setReg m x v) a c := by
  unfold isReg at h
  simp only [Bool.or_eq_true, beq_iff_eq] at h
  rcases h with ((h | h) | h) | h
  · exact ⟨1, .inl ⟨by rw [h]; rfl, rfl⟩, fun m a c => ⟨by rw [h]; rfl, fun v => by rw [h]; rfl⟩⟩
  · exact ⟨3, .inr (.inl ⟨by rw [h]; rfl, rfl⟩), fun m a c => ⟨by rw [h]; rfl, fun v => by rw [h]; rfl⟩⟩
  · exact ⟨4, .inr (.inr (.inl ⟨by rw [h]; rfl, rfl⟩)), fun m a c => ⟨by rw [h]; rfl, fun v => by rw [h]; rfl⟩⟩
  · exact ⟨5, .inr (.inr (.inr ⟨by rw [h]; rfl, rfl⟩)), fun m a c => ⟨by rw [h]; rfl, fun v => by rw [h]; rfl⟩⟩
theorem setReg_args (m : M) (x : UInt8) (v : Int) : (setReg m x v).args = m.args := by
  unfold setReg
  repeat' split
  all_goals rfl
theorem setReg_op (m : M) (x : UInt8) (v : Int) : (setReg m x v).op = m.op := by
  unfold setReg
  repeat' split
  all_goals rfl
theorem drop_two (l : List UInt8) (k : Nat) (h : k + 1 < l.length) : l.drop k = l[k] :: l[k + 1] :: l.drop (k + 2) := by
  rw [List.drop_eq_getElem_cons (by omega), List.drop_eq_getElem_cons h]
theorem drop_last (l : List UInt8) (k : Nat) (h : k + 1 = l.length) : l.drop k = [l[k]] := by
  rw [List.drop_eq_getElem_cons (by omega), List.drop_of_length_le (by omega)]
theorem getM_regs {s : List UInt8} {k : Int} (h0 : ¬ s.length = 0) (h1 : (known (opB s) && (!farB s || decide (numF (opB s) = 98))) = true) (h2 : getRegs s (regsF (opB s)) (startM s) 1 = .error k) : getM s = .error k := by
  unfold getM getRaw
  rw [if_neg h0, if_neg (by rw [h1]; simp), h2]
theorem getM_num {s : List UInt8} {k : Int} {m : M} {p : Nat} (h0 : ¬ s.length = 0) (h1 : (known (opB s) && (!farB s || decide (numF (opB s) = 98))) = true) (h2 : getRegs s (regsF (opB s)) (startM s) 1 = .ok (m, p)) (h3 : getNum s m p (farB s) = .error k) : getM s = .error k := by
  unfold getM getRaw
  rw [if_neg h0, if_neg (by rw [h1]; simp), h2]
  simp only [h3]
theorem getM_raw {s : List UInt8} {m m2 : M} {p p2 : Nat} (h0 : ¬ s.length = 0) (h1 : (known (opB s) && (!farB s || decide (numF (opB s) = 98))) = true) (h2 : getRegs s (regsF (opB s)) (startM s) 1 = .ok (m, p)) (h3 : getNum s m p (farB s) = .ok (m2, p2)) :
    getM s = match put (fixE m2) with
      | .ok t => if t = s.take p2 then .ok (fixE m2, p2) else .error 60
      | .error _ => .error 60 := by
  unfold getM getRaw
  rw [if_neg h0, if_neg (by rw [h1]; simp), h2]
  simp only [h3]
  cases put (fixE m2) <;> rfl
theorem setReg_in (m : M) (h : InR m) (x : UInt8) (v : Int) (hv : In64 v) : InR (setReg m x v) := by
  unfold setReg
  repeat' split
  · exact ⟨h.imm, h.op, hv, h.e, h.a, h.b, h.c, h.args, h.few⟩
  · exact ⟨h.imm, h.op, h.d, h.e, hv, h.b, h.c, h.args, h.few⟩
  · exact ⟨h.imm, h.op, h.d, h.e, h.a, hv, h.c, h.args, h.few⟩
  · exact ⟨h.imm, h.op, h.d, h.e, h.a, h.b, hv, h.args, h.few⟩
theorem startM_in (s : List UInt8) : InR (startM s) := by
  have hb := byteI_range s 0
  have z : In64 0 := ⟨by decide, by decide⟩
  refine ⟨⟨show (-2147483648 : Int) ≤ 0 by decide, show (0 : Int) ≤ 2147483647 by decide⟩, ⟨?_, ?_⟩, z, ?_, z, z, z, fun x hx => absurd hx (by simp [startM]), by simp [startM]⟩
  · show -9223372036854775808 ≤ opB s
    unfold opB
    omega
  · show opB s ≤ 9223372036854775807
    unfold opB
    omega
  · show In64 (if farB s = true then 1 else 0)
    split
    · exact ⟨by decide, by decide⟩
    · exact z
theorem i32_range (n : Int) : -2147483648 ≤ IntKind.i32.wrap n ∧ IntKind.i32.wrap n ≤ 2147483647 := by
  simp [IntKind.wrap, IntKind.bits, IntKind.signed]
  omega
theorem be4_range (s : List UInt8) (p : Nat) : 0 ≤ beNum ((s.drop p).take 4) ∧ beNum ((s.drop p).take 4) < 4294967296 := by
  have h := beNum_range ((s.drop p).take 4)
  have hl : ((s.drop p).take 4).length ≤ 4 := by rw [List.length_take]; omega
  generalize ((s.drop p).take 4).length = L at h hl
  have hL : L = 0 ∨ L = 1 ∨ L = 2 ∨ L = 3 ∨ L = 4 := by omega
  rcases hL with rfl | rfl | rfl | rfl | rfl <;> (simp at h; omega)
theorem wrap32_is (n : Int) : wrap32 n = IntKind.i32.wrap n := by
  simp [IntKind.wrap, IntKind.bits, IntKind.signed, wrap32]
  omega
theorem args_none {m : M} (h : m.args = []) (W : World) : ArgsIn W m none 0 := ⟨by rw [h]; exact ReadsInt.nil W .i64, by rw [h]; exact Nat.le_refl 0⟩
end Go.Proofs.YtmoplcchiadlpaaDoor.Jc
