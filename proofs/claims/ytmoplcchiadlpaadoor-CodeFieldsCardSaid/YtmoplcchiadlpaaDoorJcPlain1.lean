/- Plain laws of chapter 18: how many bytes; branches. -/
import Derived.Test.YtmoplcchiadlpaaDoorJcPut
set_option linter.unusedVariables false
set_option linter.unusedSimpArgs false
namespace Go.Proofs.YtmoplcchiadlpaaDoor.Jc
open Go

theorem pairs_length : ∀ l : List Int, (pairs l).length = (l.length + 1) / 2
  | [] => by simp [pairs]
  | [_] => by simp [pairs]
  | _ :: _ :: r => by
    simp only [pairs, List.length_cons, pairs_length r]
    omega
theorem put_ok {m : M} {s : List UInt8} (h : put m = .ok s) : shapeOk m = true ∧ (valsM m).all regOk = true ∧ ∃ t, numPart m = .ok t ∧ s = headB m :: (pairs (valsM m) ++ t) := by
  unfold put at h
  split at h
  · cases h
  rename_i h1
  split at h
  · cases h
  rename_i h2
  cases hn : numPart m with
  | error e => rw [hn] at h; cases h
  | ok t =>
    rw [hn] at h
    cases h
    rw [Bool.not_eq_false] at h2
    exact ⟨by simpa using h1, h2, t, rfl, rfl⟩
theorem numPart_length {m : M} {t : List UInt8} (h : numPart m = .ok t) : (t.length : Int) = if numF m.op = 0 then 0 else if numF m.op = 110 then 5 else if numF m.op = 116 then 1 + 3 * (m.args.length : Int) else ((widthF (numF m.op) (farOf m)).1 : Int) := by
  unfold numPart at h
  by_cases n0 : numF m.op = 0
  · rw [if_pos n0] at h ⊢
    cases h
    rfl
  rw [if_neg n0] at h ⊢
  by_cases n1 : numF m.op = 110
  · rw [if_pos n1] at h ⊢
    cases h
    simp [numB_length]
  rw [if_neg n1] at h ⊢
  by_cases n2 : numF m.op = 101
  · rw [if_pos n2] at h
    rw [n2]
    cases h
    rw [if_neg (by decide)]
    simp [numB_length, widthF]
  rw [if_neg n2] at h
  by_cases n3 : numF m.op = 116
  · rw [if_pos n3] at h ⊢
    cases ht : tableB m.args with
    | error e => rw [ht] at h; cases h
    | ok u =>
      rw [ht] at h
      cases h
      have := tableB_len _ _ ht
      simp [numB_length, this]
      try omega
  rw [if_neg n3] at h ⊢
  by_cases n4 : numF m.op = 98
  · rw [if_pos n4] at h
    rw [n4]
    have := fitsB_ok h
    rw [this.2.2, numB_length]
  rw [if_neg n4] at h
  have := fitsB_ok h
  rw [this.2.2, numB_length]
/-- P18.3: what was put is as long as its size says. -/
theorem put_size {m : M} {s : List UInt8} (h : put m = .ok s) : (s.length : Int) = sizeM m := by
  obtain ⟨h1, _, t, h3, rfl⟩ := put_ok h
  unfold sizeM
  rw [if_neg (by rw [h1]; simp), ← numPart_length h3]
  simp only [List.length_cons, List.length_append, pairs_length, valsM_length]
  omega

/-- The nine branches. -/
theorem branch_op {op : Int} (h : 40 ≤ op ∧ op ≤ 48) : known op = true ∧ numF op = 98 ∧ op ≠ 28 ∧ op ≠ 29 ∧ (∀ x ∈ regsF op, x = 65 ∨ x = 66) := by
  have : op = 40 ∨ op = 41 ∨ op = 42 ∨ op = 43 ∨ op = 44 ∨ op = 45 ∨ op = 46 ∨ op = 47 ∨ op = 48 := by omega
  rcases this with rfl | rfl | rfl | rfl | rfl | rfl | rfl | rfl | rfl <;> decide +kernel
theorem branch_shape {m : M} (h : 40 ≤ m.op ∧ m.op ≤ 48) (he : m.e = 0 ∨ m.e = 1) : shapeOk m = true := by
  obtain ⟨h1, h2, h3, h4, _⟩ := branch_op h
  unfold shapeOk
  rw [h1, if_neg h3, if_neg h4, if_pos (.inl h2)]
  rcases he with he | he <;> simp [he]
theorem branch_regs {m : M} (h : 40 ≤ m.op ∧ m.op ≤ 48) (ha : 0 ≤ m.a ∧ m.a < 16) (hb : 0 ≤ m.b ∧ m.b < 16) : (valsM m).all regOk = true := by
  obtain ⟨_, _, _, _, h5⟩ := branch_op h
  rw [List.all_eq_true]
  intro x hx
  unfold valsM at hx
  obtain ⟨y, hy, rfl⟩ := List.mem_map.1 hx
  rw [regOk_iff]
  rcases h5 y hy with rfl | rfl
  · exact ha
  · exact hb
theorem branch_num {m : M} (h : 40 ≤ m.op ∧ m.op ≤ 48) : numPart m = fitsB m.imm 98 (farOf m) 61 := by
  obtain ⟨_, h2, _, _, _⟩ := branch_op h
  unfold numPart
  rw [if_neg (by rw [h2]; decide), if_neg (by rw [h2]; decide), if_neg (by rw [h2]; decide), if_neg (by rw [h2]; decide), if_pos h2]
theorem branch_put {m : M} (h : 40 ≤ m.op ∧ m.op ≤ 48) (he : m.e = 0 ∨ m.e = 1) (ha : 0 ≤ m.a ∧ m.a < 16) (hb : 0 ≤ m.b ∧ m.b < 16) :
    put m = match fitsB m.imm 98 (farOf m) 61 with | .ok s => .ok (headB m :: (pairs (valsM m) ++ s)) | .error e => .error e := by
  rw [put_full m (branch_shape h he) (branch_regs h ha hb), branch_num h]
  cases fitsB m.imm 98 (farOf m) 61 <;> rfl
theorem branch_near {m : M} (h : 40 ≤ m.op ∧ m.op ≤ 48) (he : m.e = 0) (ha : 0 ≤ m.a ∧ m.a < 16) (hb : 0 ≤ m.b ∧ m.b < 16) :
    putE m = if -128 ≤ m.imm ∧ m.imm ≤ 127 then 0 else 61 := by
  have hf : farOf m = false := by unfold farOf; rw [he]; simp
  unfold putE
  rw [branch_put h (.inl he) ha hb, hf]
  unfold fitsB
  have hw : widthF 98 false = (1, -128, 127) := by unfold widthF; simp
  rw [hw]
  by_cases hc : -128 ≤ m.imm ∧ m.imm ≤ 127
  · rw [if_pos hc, if_pos hc]
  · rw [if_neg hc, if_neg hc]
theorem branch_far {m : M} (h : 40 ≤ m.op ∧ m.op ≤ 48) (he : m.e = 1) (ha : 0 ≤ m.a ∧ m.a < 16) (hb : 0 ≤ m.b ∧ m.b < 16) :
    putE m = if -8388608 ≤ m.imm ∧ m.imm ≤ 8388607 then 0 else 61 := by
  have hf : farOf m = true := by unfold farOf; rw [he, (branch_op h).2.1]; rfl
  unfold putE
  rw [branch_put h (.inr he) ha hb, hf]
  unfold fitsB
  have hw : widthF 98 true = (3, -8388608, 8388607) := by unfold widthF; simp
  rw [hw]
  by_cases hc : -8388608 ≤ m.imm ∧ m.imm ≤ 8388607
  · rw [if_pos hc, if_pos hc]
  · rw [if_neg hc, if_neg hc]
theorem putE_ok {m : M} (h : putE m = 0) : ((putS m).length : Int) = sizeM m := by
  unfold putE at h
  unfold putS
  cases hp : put m with
  | ok s => exact put_size hp
  | error k =>
    rw [hp] at h
    rcases put_err hp with h1 | h1 | h1 | h1 <;> (simp at h; omega)
theorem branch_size (op a b imm : Int) (h : 40 ≤ op ∧ op ≤ 48) : sizeM ⟨op, 0, 1, a, b, 0, imm, []⟩ = sizeM ⟨op, 0, 0, a, b, 0, imm, []⟩ + 2 ∧ 0 ≤ sizeM ⟨op, 0, 0, a, b, 0, imm, []⟩ ∧ sizeM ⟨op, 0, 0, a, b, 0, imm, []⟩ ≤ 100 := by
  have h1 := branch_shape (m := ⟨op, 0, 1, a, b, 0, imm, []⟩) h (.inr rfl)
  have h0 := branch_shape (m := ⟨op, 0, 0, a, b, 0, imm, []⟩) h (.inl rfl)
  have hn := (branch_op h).2.1
  have hr := regs_short op
  have f1 : farOf ⟨op, 0, 1, a, b, 0, imm, []⟩ = true := by unfold farOf; rw [hn]; rfl
  have f0 : farOf ⟨op, 0, 0, a, b, 0, imm, []⟩ = false := by unfold farOf; simp
  have w1 : widthF 98 true = (3, -8388608, 8388607) := by unfold widthF; simp
  have w0 : widthF 98 false = (1, -128, 127) := by unfold widthF; simp
  have s1 : sizeM ⟨op, 0, 1, a, b, 0, imm, []⟩ = 1 + ((((regsF op).length + 1) / 2 : Nat) : Int) + 3 := by
    unfold sizeM
    rw [if_neg (by rw [h1]; simp), f1]
    simp [hn, w1]
  have s0 : sizeM ⟨op, 0, 0, a, b, 0, imm, []⟩ = 1 + ((((regsF op).length + 1) / 2 : Nat) : Int) + 1 := by
    unfold sizeM
    rw [if_neg (by rw [h0]; simp), f0]
    simp [hn, w0]
  rw [s1, s0]
  generalize regsF op = l at hr
  omega
end Go.Proofs.YtmoplcchiadlpaaDoor.Jc
