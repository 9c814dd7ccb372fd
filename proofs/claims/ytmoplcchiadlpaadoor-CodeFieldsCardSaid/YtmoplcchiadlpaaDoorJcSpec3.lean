/- Chapter 18 in plain Lean: an instruction's number in bytes; the contracts of fits by it. -/
import Derived.Test.YtmoplcchiadlpaaDoorJcSpec2
import Derived.Test.YtmoplcchiadlpaaDoorJcNum
import Derived.Lib.Hide
set_option linter.unusedVariables false
set_option linter.unusedSimpArgs false
namespace Go.Proofs.YtmoplcchiadlpaaDoor.Jc
open Go Go.RowKit Go.ChangeMaps Go.Proofs.YtmoplcchiadlpaaDoorW.PrintWords

def In64 (n : Int) : Prop := -9223372036854775808 ≤ n ∧ n ≤ 9223372036854775807
/-- An instruction whose numbers are Go's. -/
structure InR (m : M) : Prop where
  imm : -2147483648 ≤ m.imm ∧ m.imm ≤ 2147483647
  op : In64 m.op
  d : In64 m.d
  e : In64 m.e
  a : In64 m.a
  b : In64 m.b
  c : In64 m.c
  args : ∀ x ∈ m.args, In64 x
  few : m.args.length ≤ 1000000

theorem width_le (x : UInt8) (far : Bool) : (widthF x far).1 ≤ 4 := by
  unfold widthF
  repeat' split
  all_goals simp
theorem fitsB_ok {n e : Int} {x : UInt8} {far : Bool} {s : List UInt8} (h : fitsB n x far e = .ok s) : (widthF x far).2.1 ≤ n ∧ n ≤ (widthF x far).2.2 ∧ s = numB n (widthF x far).1 := by
  unfold fitsB at h
  split at h
  · rename_i h1
    cases h
    exact ⟨h1.1, h1.2, rfl⟩
  · cases h
theorem fitsB_no {n e k : Int} {x : UInt8} {far : Bool} (h : fitsB n x far e = .error k) : ¬ ((widthF x far).2.1 ≤ n ∧ n ≤ (widthF x far).2.2) ∧ k = e := by
  unfold fitsB at h
  split at h
  · cases h
  · rename_i h1
    cases h
    exact ⟨h1, rfl⟩
theorem fitsB_size {n e : Int} {x : UInt8} {far : Bool} {s : List UInt8} (h : fitsB n x far e = .ok s) : (bs s).size ≤ 4 := by
  rw [bs_size, (fitsB_ok h).2.2, numB_length]
  exact width_le x far
theorem fits_is {n e : Int} {x : UInt8} {far : Bool} {s : List UInt8} (h : fitsB n x far e = .ok s) (w : World) :
    Calls Tryd.prog 37 #[.int .i64 n, .int .u8 x.toNat, .bool far, .int .i64 e] w fun e' w' => e' = .returned (.string (bs s)) ∧ Below w.heap.size w w' := by
  obtain ⟨h1, h2, rfl⟩ := fitsB_ok h
  exact fits_ok n x far e h1 h2 (width_le x far) w
theorem fits_isnt {n e k : Int} {x : UInt8} {far : Bool} (h : fitsB n x far e = .error k) (w : World) :
    Calls Tryd.prog 37 #[.int .i64 n, .int .u8 x.toNat, .bool far, .int .i64 e] w fun e' w' => e' = .panicked [{ v := trouble e, recovered := false }] ∧ w = w' :=
  fits_no n x far e (fitsB_no h).1 w

/-- The same, said so that the walk through a region goes on behind the panic, from what is not so. -/
theorem fits_dies {n e k : Int} {x : UInt8} {far : Bool} (h : fitsB n x far e = .error k) (w : World) :
    Calls Tryd.prog 37 #[.int .i64 n, .int .u8 x.toNat, .bool far, .int .i64 e] w fun e' w' => (e' = .panicked [{ v := trouble e, recovered := false }] ∧ w = w') ∨ (Hid False ∧ e' = .returned (.string ⟨#[]⟩) ∧ w = w') :=
  (fits_isnt h w).mono fun _ _ q => .inl q
theorem grown_drew {w w1 : World} {row : Option Nat} (h : w.grownBy w1 row) : w.grownBy w1.drew row := ⟨h.os, h.tape, h.output, h.size, h.block⟩
theorem u8_ne {x c : UInt8} {n : Int} (hc : (c.toNat : Int) = n) (h : x ≠ c) : ((x.toNat : Int) == n) = false := by
  rw [beq_eq_false_iff_ne]
  intro e
  exact h (UInt8.toNat_inj.1 (by omega))
theorem number_i (n k : Int) (hk : 0 ≤ k ∧ k ≤ 4) (w : World) :
    Calls Tryd.prog 35 #[.int .i64 n, .int .i64 k] w fun e w' => e = .returned (.string (bs (numB n k.toNat))) ∧ Below w.heap.size w w' := by
  have h := number_any n k.toNat (by omega) w
  rwa [Int.toNat_of_nonneg hk.1] at h

theorem tableB_snoc (x : Int) : ∀ l : List Int, tableB (l ++ [x]) = match tableB l with
    | .ok s => (match fitsB x 116 false 61 with | .ok t => .ok (s ++ t) | .error e => .error e)
    | .error e => .error e
  | [] => by
    simp only [List.nil_append, tableB]
    cases fitsB x 116 false 61 <;> simp
  | y :: l => by
    simp only [List.cons_append, tableB, tableB_snoc x l]
    cases fitsB y 116 false 61 <;> cases tableB l <;> cases fitsB x 116 false 61 <;> simp
theorem tableB_err : ∀ (l : List Int) (e : Int), tableB l = .error e → e = 61
  | [], e, h => by simp [tableB] at h
  | x :: l, e, h => by
    simp only [tableB] at h
    cases hx : fitsB x 116 false 61 with
    | error k =>
      rw [hx] at h
      cases h
      exact (fitsB_no hx).2
    | ok s =>
      rw [hx] at h
      cases ht : tableB l with
      | error k =>
        rw [ht] at h
        cases h
        exact tableB_err l _ ht
      | ok t => rw [ht] at h; cases h
theorem tableB_bad (e : Int) : ∀ (l r : List Int), tableB l = .error e → tableB (l ++ r) = .error 61
  | [], r, h => by simp [tableB] at h
  | x :: l, r, h => by
    simp only [tableB, List.cons_append] at h ⊢
    cases hx : fitsB x 116 false 61 with
    | error k =>
      simp only []
      rw [(fitsB_no hx).2]
    | ok s =>
      rw [hx] at h
      cases ht : tableB l with
      | error k => simp only [tableB_bad k l r ht]
      | ok t => rw [ht] at h; cases h
theorem tableB_len : ∀ (l : List Int) (s : List UInt8), tableB l = .ok s → s.length = 3 * l.length
  | [], s, h => by simp [tableB] at h; simp [← h]
  | x :: l, s, h => by
    simp only [tableB] at h
    cases hx : fitsB x 116 false 61 with
    | error k => rw [hx] at h; cases h
    | ok t =>
      rw [hx] at h
      cases ht : tableB l with
      | error k => rw [ht] at h; cases h
      | ok u =>
        rw [ht] at h
        cases h
        have h1 := tableB_len l u ht
        have h2 : t.length = 3 := by rw [(fitsB_ok hx).2.2, numB_length]; rfl
        simp [h1, h2]
        omega
/-- A table's first entries, and one more. -/
theorem tableB_more (l : List Int) (k : Nat) (h : k < l.length) {s t : List UInt8} (h1 : tableB (l.take k) = .ok s) (h2 : fitsB (l.getD k 0) 116 false 61 = .ok t) : tableB (l.take (k + 1)) = .ok (s ++ t) := by
  rw [take_snoc l k 0 h, tableB_snoc, h1, h2]
theorem tableB_stop (l : List Int) (k : Nat) (h : k < l.length) {s : List UInt8} {e : Int} (h1 : tableB (l.take k) = .ok s) (h2 : fitsB (l.getD k 0) 116 false 61 = .error e) : tableB l = .error 61 := by
  rw [← List.take_append_drop (k + 1) l]
  apply tableB_bad e
  rw [take_snoc l k 0 h, tableB_snoc, h1, h2]

theorem put_full (m : M) (hs : shapeOk m = true) (ha : (valsM m).all regOk = true) : put m = match numPart m with
    | .ok s => .ok (headB m :: (pairs (valsM m) ++ s))
    | .error e => .error e := by
  unfold put
  rw [if_neg (by rw [hs]; simp), if_neg (by rw [show (regsF m.op).map (regVal m) = valsM m from rfl, ha]; simp)]
  rfl
theorem full_size (m : M) : (bs (headB m :: pairs (valsM m))).size ≤ 100 := by
  have h := head_size m (valsM m).length
  rwa [List.take_length] at h
theorem shape_116 (m : M) (hs : shapeOk m = true) (h : numF m.op = 116) : m.args.length ≤ 65 := by
  have h1 : m.op ≠ 28 := fun e => by rw [e] at h; exact absurd h (by decide +kernel)
  have h2 : m.op ≠ 29 := fun e => by rw [e] at h; exact absurd h (by decide +kernel)
  have h3 : m.op ≠ 50 := fun e => by rw [e] at h; exact absurd h (by decide +kernel)
  unfold shapeOk at hs
  rw [if_neg h1, if_neg h2, if_neg (by simp [h, h3]), if_pos h] at hs
  simp at hs
  exact hs.2.2
theorem shape_110 (m : M) (hs : shapeOk m = true) (h : numF m.op = 110) : m.args.length ≤ 4 := by
  have h1 : m.op = 28 := by
    have := info_all (fun op _ f _ => !((splitF f).2 == 110) || op == 28) (fun _ => rfl) (by decide +kernel) m.op
    simp [numF] at this h
    rcases this with h0 | h0
    · exact absurd h h0
    · exact h0
  unfold shapeOk at hs
  rw [if_pos h1] at hs
  simp at hs
  exact hs.2.1.2
theorem below_step {w0 w w1 : World} (h : Below w0.heap.size w0 w) (hb : Below w.heap.size w w1) : Below w0.heap.size w0 w1 := h.trans (hb.mono h.size)
end Go.Proofs.YtmoplcchiadlpaaDoor.Jc
