/- Plain laws of chapter 18: of fewer bytes nothing is got. -/
import Derived.Test.YtmoplcchiadlpaaDoorJcGet
import Derived.Test.YtmoplcchiadlpaaDoorJcGetArgs
set_option linter.unusedVariables false
set_option linter.unusedSimpArgs false
namespace Go.Proofs.YtmoplcchiadlpaaDoor.Jc
open Go

theorem byteI_take (s : List UInt8) (k j : Nat) (h : j < k) : byteI (s.take k) j = byteI s j := by
  unfold byteI
  simp [List.getD_eq_getElem?_getD, List.getElem?_take, h]
theorem slice_take (s : List UInt8) (k p n : Nat) (h : p + n ≤ k) : ((s.take k).drop p).take n = (s.drop p).take n := by
  rw [List.drop_take, List.take_take]
  congr 1
  omega
theorem getRegs_take (s : List UInt8) : ∀ (l : List UInt8) (m : M) (p : Nat) (m' : M) (p' : Nat), getRegs s l m p = .ok (m', p') →
    p ≤ p' ∧ (p ≤ s.length → p' ≤ s.length) ∧ ∀ k, k ≤ s.length → (p' ≤ k → getRegs (s.take k) l m p = .ok (m', p')) ∧ (p ≤ k → k < p' → getRegs (s.take k) l m p = .error 62)
  | [], m, p, m', p', h => by
    cases h
    exact ⟨Nat.le_refl _, fun h => h, fun k hk => ⟨fun _ => rfl, fun h1 h2 => absurd h2 (by omega)⟩⟩
  | [x], m, p, m', p', h => by
    unfold getRegs at h
    split at h
    · rename_i hp
      cases h
      refine ⟨by omega, fun _ => by omega, fun k hk => ⟨fun h1 => ?_, fun h1 h2 => ?_⟩⟩
      · unfold getRegs
        rw [if_pos (by rw [List.length_take]; omega), byteI_take s k p (by omega)]
      · unfold getRegs
        rw [if_neg (by rw [List.length_take]; omega)]
    · cases h
  | x :: y :: r, m, p, m', p', h => by
    unfold getRegs at h
    split at h
    · rename_i hp
      obtain ⟨h1, h2, h3⟩ := getRegs_take s r _ (p + 1) m' p' h
      refine ⟨by omega, fun _ => h2 (by omega), fun k hk => ⟨fun hk1 => ?_, fun hk1 hk2 => ?_⟩⟩
      · unfold getRegs
        rw [if_pos (by rw [List.length_take]; omega), byteI_take s k p (by omega)]
        exact (h3 k hk).1 hk1
      · unfold getRegs
        by_cases hlt : p < k
        · rw [if_pos (by rw [List.length_take]; omega), byteI_take s k p hlt]
          exact (h3 k hk).2 (by omega) hk2
        · rw [if_neg (by rw [List.length_take]; omega)]
    · cases h

theorem tableArgs_take (s : List UInt8) (k p : Nat) (far : Bool) (n : Nat) (h : p + 1 + 3 * n ≤ k) : tableArgs (s.take k) p far n = tableArgs s p far n := by
  unfold tableArgs
  apply List.map_congr_left
  intro j hj
  rw [List.mem_range] at hj
  rw [slice_take s k _ 3 (by omega)]
theorem getNum_take (s : List UInt8) (m : M) (p : Nat) (far : Bool) (m' : M) (p' : Nat) (h : getNum s m p far = .ok (m', p')) :
    p ≤ p' ∧ (p ≤ s.length → p' ≤ s.length) ∧ ∀ k, k ≤ s.length → (p' ≤ k → getNum (s.take k) m p far = .ok (m', p')) ∧ (p ≤ k → k < p' → getNum (s.take k) m p far = .error 62) := by
  have hlen : ∀ k, k ≤ s.length → (s.take k).length = k := fun k hk => by rw [List.length_take]; omega
  unfold getNum at h
  by_cases n0 : numF m.op = 0
  · rw [if_pos n0] at h
    cases h
    exact ⟨Nat.le_refl _, fun h => h, fun k hk => ⟨fun _ => by unfold getNum; rw [if_pos n0], fun h1 h2 => absurd h2 (by omega)⟩⟩
  rw [if_neg n0] at h
  by_cases n1 : numF m.op = 110
  · rw [if_pos n1] at h
    split at h
    · cases h
    split at h
    · cases h
    cases h
    refine ⟨by omega, fun _ => by omega, fun k hk => ⟨fun h1 => ?_, fun h1 h2 => ?_⟩⟩
    · unfold getNum
      rw [if_neg n0, if_pos n1, hlen k hk, if_neg (by omega), if_neg (by omega), slice_take s k _ 4 (by omega), byteI_take s k p (by omega)]
    · unfold getNum
      rw [if_neg n0, if_pos n1, hlen k hk]
      by_cases hq : k < p + 1
      · rw [if_pos hq]
      · rw [if_neg hq, if_pos (by omega)]
  rw [if_neg n1] at h
  by_cases n2 : numF m.op = 101
  · rw [if_pos n2] at h
    split at h
    · cases h
    cases h
    refine ⟨by omega, fun _ => by omega, fun k hk => ⟨fun h1 => ?_, fun h1 h2 => ?_⟩⟩
    · unfold getNum
      rw [if_neg n0, if_neg n1, if_pos n2, hlen k hk, if_neg (by omega), byteI_take s k p (by omega)]
    · unfold getNum
      rw [if_neg n0, if_neg n1, if_pos n2, hlen k hk, if_pos (by omega)]
  rw [if_neg n2] at h
  by_cases n3 : numF m.op = 116
  · rw [if_pos n3] at h
    split at h
    · cases h
    rename_i q1
    split at h
    · cases h
    rename_i q2
    split at h
    · cases h
    rename_i q3
    cases h
    refine ⟨by omega, fun _ => by omega, fun k hk => ⟨fun h1 => ?_, fun h1 h2 => ?_⟩⟩
    · unfold getNum
      rw [if_neg n0, if_neg n1, if_neg n2, if_pos n3, hlen k hk, if_neg (by omega), byteI_take s k p (by omega), if_neg q2, if_neg (by omega), tableArgs_take s k p far _ h1]
    · unfold getNum
      rw [if_neg n0, if_neg n1, if_neg n2, if_pos n3, hlen k hk]
      by_cases hq : k < p + 1
      · rw [if_pos hq]
      · rw [if_neg hq, byteI_take s k p (by omega), if_neg q2, if_pos (by omega)]
  rw [if_neg n3] at h
  by_cases n4 : numF m.op = 119
  · rw [if_pos n4] at h
    split at h
    · cases h
    cases h
    refine ⟨by omega, fun _ => by omega, fun k hk => ⟨fun h1 => ?_, fun h1 h2 => ?_⟩⟩
    · unfold getNum
      rw [if_neg n0, if_neg n1, if_neg n2, if_neg n3, if_pos n4, hlen k hk, if_neg (by omega), slice_take s k _ 4 (by omega)]
    · unfold getNum
      rw [if_neg n0, if_neg n1, if_neg n2, if_neg n3, if_pos n4, hlen k hk, if_pos (by omega)]
  rw [if_neg n4] at h
  split at h
  · cases h
  cases h
  refine ⟨by omega, fun _ => by omega, fun k hk => ⟨fun h1 => ?_, fun h1 h2 => ?_⟩⟩
  · unfold getNum
    rw [if_neg n0, if_neg n1, if_neg n2, if_neg n3, if_neg n4, hlen k hk, if_neg (by omega), slice_take s k _ _ (by omega)]
  · unfold getNum
    rw [if_neg n0, if_neg n1, if_neg n2, if_neg n3, if_neg n4, hlen k hk, if_pos (by omega)]

theorem getM_ok {s : List UInt8} {m : M} {n : Nat} (h : getM s = .ok (m, n)) : ∃ m0, getRaw s = .ok (m, n) ∧ put m = .ok (s.take n) ∧ m = m0 := by
  unfold getM at h
  cases hr : getRaw s with
  | error e => rw [hr] at h; cases h
  | ok q =>
    rw [hr] at h
    simp only [] at h
    cases hp : put q.1 with
    | error e => rw [hp] at h; cases h
    | ok t =>
      rw [hp] at h
      simp only [] at h
      split at h
      · rename_i ht
        cases h
        exact ⟨m, rfl, by rw [hp, ht], rfl⟩
      · cases h
theorem getRaw_ok {s : List UInt8} {m : M} {n : Nat} (h : getRaw s = .ok (m, n)) : s.length ≠ 0 ∧ (known (opB s) && (!farB s || decide (numF (opB s) = 98))) = true ∧
    ∃ q r, getRegs s (regsF (opB s)) (startM s) 1 = .ok q ∧ getNum s q.1 q.2 (farB s) = .ok r ∧ m = fixE r.1 ∧ n = r.2 := by
  unfold getRaw at h
  split at h
  · cases h
  rename_i h0
  split at h
  · cases h
  rename_i h1
  rw [Bool.not_eq_false] at h1
  cases hq : getRegs s (regsF (opB s)) (startM s) 1 with
  | error e => rw [hq] at h; cases h
  | ok q =>
    rw [hq] at h
    simp only [] at h
    cases hn : getNum s q.1 q.2 (farB s) with
    | error e => rw [hn] at h; cases h
    | ok r =>
      rw [hn] at h
      cases h
      exact ⟨h0, h1, q, r, rfl, hn, rfl, rfl⟩
/-- P18.6: what is got is put as just the bytes that were read; of fewer nothing is got. -/
theorem getM_only {s : List UInt8} {m : M} {n : Nat} (h : getM s = .ok (m, n)) : 1 ≤ n ∧ n ≤ s.length ∧ put m = .ok (s.take n) ∧ ∀ k, k < n → getM (s.take k) = .error 62 := by
  obtain ⟨_, hr, hp, _⟩ := getM_ok h
  obtain ⟨h0, h1, ⟨m1, p1⟩, ⟨m2, p2⟩, hq, hn, _, rfl⟩ := getRaw_ok hr
  simp only [] at hn
  obtain ⟨a1, a2, a3⟩ := getRegs_take s _ _ _ _ _ hq
  obtain ⟨b1, b2, b3⟩ := getNum_take s _ _ _ _ _ hn
  have hle : n ≤ s.length := b2 (a2 (by omega))
  refine ⟨by omega, hle, hp, fun k hk => ?_⟩
  have hlen : (s.take k).length = k := by rw [List.length_take]; omega
  unfold getM getRaw
  by_cases hk0 : k = 0
  · rw [if_pos (by rw [hlen]; exact hk0)]
  rw [if_neg (by rw [hlen]; exact hk0)]
  have e0 : byteI (s.take k) 0 = byteI s 0 := byteI_take s k 0 (by omega)
  have e1 : opB (s.take k) = opB s := by unfold opB; rw [e0]
  have e2 : farB (s.take k) = farB s := by unfold farB; rw [e0]
  have e3 : startM (s.take k) = startM s := by unfold startM; rw [e1, e2]
  rw [e1, e2, e3, if_neg (by rw [h1]; simp)]
  by_cases hk1 : p1 ≤ k
  · rw [(a3 k (by omega)).1 hk1]
    simp only []
    rw [(b3 k (by omega)).2 hk1 hk]
  · rw [(a3 k (by omega)).2 (by omega) (by omega)]
theorem getS_only {s : List UInt8} (h : getE s = 0) : ∃ n : Nat, getN s = (n : Int) ∧ 1 ≤ n ∧ n ≤ s.length ∧ putS (getI s) = s.take n ∧ putE (getI s) = 0 ∧ ∀ k, k < n → getE (s.take k) = 62 ∧ getN (s.take k) = 0 := by
  unfold getE at h
  cases hg : getM s with
  | error k =>
    rw [hg] at h
    have h : k = 0 := h
    rcases getM_err hg with h1 | h1 <;> omega
  | ok r =>
    obtain ⟨m, n⟩ := r
    obtain ⟨h1, h2, h3, h4⟩ := getM_only hg
    have e1 : getI s = m := by unfold getI; rw [hg]
    refine ⟨n, by unfold getN; rw [hg], h1, h2, by rw [e1]; unfold putS; rw [h3], by rw [e1]; unfold putE; rw [h3], fun k hk => ?_⟩
    have h5 := h4 k hk
    exact ⟨by unfold getE; rw [h5], by unfold getN; rw [h5]⟩
theorem getS_none {s : List UInt8} (h : getE s ≠ 0) : getI s = zeroM ∧ getN s = 0 ∧ (getE s = 62 ∨ getE s = 60) := by
  unfold getE getI getN at *
  cases hg : getM s with
  | error k => exact ⟨rfl, rfl, getM_err hg⟩
  | ok r => rw [hg] at h; exact absurd rfl h

/-! What is got is an instruction of Go's numbers. -/
theorem byte_in (s : List UInt8) (p : Nat) : In64 (byteI s p) ∧ In64 (byteI s p / 16) ∧ In64 (byteI s p % 16) := by
  have h := byteI_range s p
  exact ⟨⟨by omega, by omega⟩, ⟨by omega, by omega⟩, ⟨by omega, by omega⟩⟩
theorem getRegs_in (s : List UInt8) : ∀ (l : List UInt8) (m : M) (p : Nat) (m' : M) (p' : Nat), InR m → getRegs s l m p = .ok (m', p') → InR m' ∧ m'.args = m.args ∧ m'.op = m.op
  | [], m, p, m', p', hm, h => by cases h; exact ⟨hm, rfl, rfl⟩
  | [x], m, p, m', p', hm, h => by
    unfold getRegs at h
    split at h
    · cases h
      exact ⟨setReg_in _ hm _ _ (byte_in s p).2.1, setReg_args _ _ _, setReg_op _ _ _⟩
    · cases h
  | x :: y :: r, m, p, m', p', hm, h => by
    unfold getRegs at h
    split at h
    · obtain ⟨h1, h2, h3⟩ := getRegs_in s r _ _ m' p' (setReg_in _ (setReg_in _ hm _ _ (byte_in s p).2.1) _ _ (byte_in s p).2.2) h
      exact ⟨h1, by rw [h2, setReg_args, setReg_args], by rw [h3, setReg_op, setReg_op]⟩
    · cases h
theorem getNum_in (s : List UInt8) (m : M) (p : Nat) (far : Bool) (m' : M) (p' : Nat) (hm : InR m) (h : getNum s m p far = .ok (m', p')) : InR m' := by
  unfold getNum at h
  split at h
  · cases h; exact hm
  split at h
  · split at h
    · cases h
    split at h
    · cases h
    cases h
    exact ⟨i32_range _, hm.op, hm.d, hm.e, hm.a, hm.b, hm.c, callArgs_in _ (by omega), by show (callArgs _).length ≤ 1000000; rw [callArgs_length]; omega⟩
  split at h
  · split at h
    · cases h
    cases h
    exact ⟨hm.imm, hm.op, hm.d, (byte_in s p).1, hm.a, hm.b, hm.c, hm.args, hm.few⟩
  split at h
  · split at h
    · cases h
    split at h
    · cases h
    rename_i hb
    split at h
    · cases h
    cases h
    exact ⟨hm.imm, hm.op, hm.d, hm.e, hm.a, hm.b, hm.c, tableArgs_in _ _ _ _, by show (tableArgs _ _ _ _).length ≤ 1000000; rw [tableArgs_length]; omega⟩
  split at h
  · split at h
    · cases h
    cases h
    exact ⟨i32_range _, hm.op, hm.d, hm.e, hm.a, hm.b, hm.c, hm.args, hm.few⟩
  · split at h
    · cases h
    cases h
    exact ⟨i32_range _, hm.op, hm.d, hm.e, hm.a, hm.b, hm.c, hm.args, hm.few⟩
theorem fixE_in {m : M} (h : InR m) : InR (fixE m) := by
  unfold fixE
  split
  · exact ⟨h.imm, h.op, h.d, ⟨by show (-9223372036854775808 : Int) ≤ 1; decide, by show (1 : Int) ≤ 9223372036854775807; decide⟩, h.a, h.b, h.c, h.args, h.few⟩
  · exact h
theorem zeroM_in : InR zeroM := ⟨⟨by show (-2147483648 : Int) ≤ 0; decide, by show (0 : Int) ≤ 2147483647; decide⟩, ⟨by show (-9223372036854775808 : Int) ≤ 0; decide, by show (0 : Int) ≤ 9223372036854775807; decide⟩, ⟨by show (-9223372036854775808 : Int) ≤ 0; decide, by show (0 : Int) ≤ 9223372036854775807; decide⟩, ⟨by show (-9223372036854775808 : Int) ≤ 0; decide, by show (0 : Int) ≤ 9223372036854775807; decide⟩, ⟨by show (-9223372036854775808 : Int) ≤ 0; decide, by show (0 : Int) ≤ 9223372036854775807; decide⟩, ⟨by show (-9223372036854775808 : Int) ≤ 0; decide, by show (0 : Int) ≤ 9223372036854775807; decide⟩, ⟨by show (-9223372036854775808 : Int) ≤ 0; decide, by show (0 : Int) ≤ 9223372036854775807; decide⟩, fun x hx => absurd hx (by simp [zeroM]), by simp [zeroM]⟩
theorem getI_in (s : List UInt8) : InR (getI s) := by
  unfold getI
  cases hg : getM s with
  | error k => exact zeroM_in
  | ok r =>
    obtain ⟨m, n⟩ := r
    obtain ⟨_, hr, _, _⟩ := getM_ok hg
    obtain ⟨_, _, ⟨m1, p1⟩, ⟨m2, p2⟩, hq, hn, rfl, _⟩ := getRaw_ok hr
    exact fixE_in (getNum_in s _ _ _ _ _ (getRegs_in s _ _ _ _ _ (startM_in s) hq).1 hn)
end Go.Proofs.YtmoplcchiadlpaaDoor.Jc
