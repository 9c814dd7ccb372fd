/- Plain laws of chapter 18: what was put is got again; another register; what the functions hand back. -/
import Derived.Test.YtmoplcchiadlpaaDoorJcPlain1
import Derived.Test.YtmoplcchiadlpaaDoorJcPlain2
import Derived.Test.YtmoplcchiadlpaaDoorJcRefA
set_option linter.unusedVariables false
set_option linter.unusedSimpArgs false
namespace Go.Proofs.YtmoplcchiadlpaaDoor.Jc
section
open Go

/-- An instruction without what its Op has not. -/
def plainM (m : M) : M := ⟨m.op, if (68 : UInt8) ∈ regsF m.op then m.d else 0, if numF m.op = 101 ∨ numF m.op = 98 ∨ m.op = 29 then m.e else 0, if (65 : UInt8) ∈ regsF m.op then m.a else 0, if (66 : UInt8) ∈ regsF m.op then m.b else 0, if (67 : UInt8) ∈ regsF m.op then m.c else 0,
  if numF m.op = 0 ∨ numF m.op = 101 ∨ numF m.op = 116 then 0 else m.imm, if numF m.op = 110 ∨ numF m.op = 116 then m.args else []⟩

theorem plain_reg (m : M) (x : UInt8) (h : x ∈ regsF m.op) : regVal (plainM m) x = regVal m x := by
  have hx := regs_are m.op x h
  unfold isReg at hx
  simp only [Bool.or_eq_true, beq_iff_eq] at hx
  rcases hx with ((rfl | rfl) | rfl) | rfl
  · show (if (68 : UInt8) ∈ regsF m.op then m.d else 0) = m.d
    rw [if_pos h]
  · show (if (65 : UInt8) ∈ regsF m.op then m.a else 0) = m.a
    rw [if_pos h]
  · show (if (66 : UInt8) ∈ regsF m.op then m.b else 0) = m.b
    rw [if_pos h]
  · show (if (67 : UInt8) ∈ regsF m.op then m.c else 0) = m.c
    rw [if_pos h]
theorem plain_vals (m : M) : valsM (plainM m) = valsM m := by
  unfold valsM
  exact List.map_congr_left fun x hx => plain_reg m x hx
theorem op28 : regsF 28 = [] ∧ numF 28 = 110 := by decide +kernel
theorem op29 : regsF 29 = [65, 66] ∧ numF 29 = 0 := by decide +kernel
theorem op50 : numF 50 = 101 := by decide +kernel
theorem num110 {op : Int} (h : numF op = 110) : op = 28 := by
  have := info_all (fun op _ f _ => !((splitF f).2 == 110) || op == 28) (fun _ => rfl) (by decide +kernel) op
  simp [numF] at this h
  rcases this with h0 | h0
  · exact absurd h h0
  · exact h0
theorem num101 {op : Int} (h : numF op = 101) : op = 50 := by
  have := info_all (fun op _ f _ => !((splitF f).2 == 101) || op == 50) (fun _ => rfl) (by decide +kernel) op
  simp [numF] at this h
  rcases this with h0 | h0
  · exact absurd h h0
  · exact h0
theorem plain_far (m : M) : farOf (plainM m) = farOf m := by
  unfold farOf
  by_cases h : numF m.op = 98
  · show (decide (numF m.op = 98) && (if numF m.op = 101 ∨ numF m.op = 98 ∨ m.op = 29 then m.e else 0) == 1) = _
    rw [if_pos (.inr (.inl h))]
  · show (decide (numF m.op = 98) && _) = (decide (numF m.op = 98) && _)
    rw [decide_eq_false h]
    rfl
theorem plain_head (m : M) : headB (plainM m) = headB m := by
  unfold headB
  rw [plain_far]
  rfl
theorem plain_shape (m : M) (h : shapeOk m = true) : shapeOk (plainM m) = true := by
  have hop : (plainM m).op = m.op := rfl
  unfold shapeOk at h ⊢
  rw [hop]
  by_cases h28 : m.op = 28
  · rw [if_pos h28] at h ⊢
    have e1 : (plainM m).args = m.args := by show (if numF m.op = 110 ∨ numF m.op = 116 then m.args else []) = m.args; rw [if_pos (.inl (by rw [h28]; exact op28.2))]
    have e2 : (plainM m).d = 0 := by show (if (68 : UInt8) ∈ regsF m.op then m.d else 0) = 0; rw [h28, op28.1]; rfl
    rw [e1, e2]
    simp only [Bool.and_eq_true] at h ⊢
    exact ⟨h.1, h.2.1, rfl⟩
  rw [if_neg h28] at h ⊢
  by_cases h29 : m.op = 29
  · rw [if_pos h29] at h ⊢
    have e1 : (plainM m).d = 0 := by show (if (68 : UInt8) ∈ regsF m.op then m.d else 0) = 0; rw [h29, op29.1]; rfl
    have e2 : (plainM m).e = m.e := by show (if numF m.op = 101 ∨ numF m.op = 98 ∨ m.op = 29 then m.e else 0) = m.e; rw [if_pos (.inr (.inr h29))]
    rw [e1, e2]
    simp only [Bool.and_eq_true] at h ⊢
    exact ⟨h.1, rfl, h.2.2⟩
  rw [if_neg h29] at h ⊢
  by_cases h98 : numF m.op = 98 ∨ m.op = 50
  · rw [if_pos h98] at h ⊢
    have e2 : (plainM m).e = m.e := by
      show (if numF m.op = 101 ∨ numF m.op = 98 ∨ m.op = 29 then m.e else 0) = m.e
      rw [if_pos]
      rcases h98 with h1 | h1
      · exact .inr (.inl h1)
      · exact .inl (by rw [h1]; exact op50)
    rw [e2]
    exact h
  rw [if_neg h98] at h ⊢
  by_cases h116 : numF m.op = 116
  · rw [if_pos h116] at h ⊢
    have e1 : (plainM m).args = m.args := by show (if numF m.op = 110 ∨ numF m.op = 116 then m.args else []) = m.args; rw [if_pos (.inr h116)]
    rw [e1]
    exact h
  rw [if_neg h116] at h ⊢
  exact h
theorem plain_num (m : M) : numPart (plainM m) = numPart m := by
  have hop : (plainM m).op = m.op := rfl
  unfold numPart
  rw [hop, plain_far]
  by_cases n0 : numF m.op = 0
  · rw [if_pos n0, if_pos n0]
  rw [if_neg n0, if_neg n0]
  by_cases n1 : numF m.op = 110
  · have e1 : (plainM m).args = m.args := by show (if numF m.op = 110 ∨ numF m.op = 116 then m.args else []) = m.args; rw [if_pos (.inl n1)]
    have e2 : (plainM m).imm = m.imm := by show (if numF m.op = 0 ∨ numF m.op = 101 ∨ numF m.op = 116 then 0 else m.imm) = m.imm; rw [if_neg (by rw [n1]; decide)]
    rw [if_pos n1, if_pos n1, e1, e2]
  rw [if_neg n1, if_neg n1]
  by_cases n2 : numF m.op = 101
  · have e2 : (plainM m).e = m.e := by show (if numF m.op = 101 ∨ numF m.op = 98 ∨ m.op = 29 then m.e else 0) = m.e; rw [if_pos (.inl n2)]
    rw [if_pos n2, if_pos n2, e2]
  rw [if_neg n2, if_neg n2]
  by_cases n3 : numF m.op = 116
  · have e1 : (plainM m).args = m.args := by show (if numF m.op = 110 ∨ numF m.op = 116 then m.args else []) = m.args; rw [if_pos (.inr n3)]
    rw [if_pos n3, if_pos n3, e1]
  have e2 : (plainM m).imm = m.imm := by
    show (if numF m.op = 0 ∨ numF m.op = 101 ∨ numF m.op = 116 then 0 else m.imm) = m.imm
    rw [if_neg (by
      rintro (h | h | h)
      · exact n0 h
      · exact n2 h
      · exact n3 h)]
  rw [if_neg n3, if_neg n3, e2]
theorem put_plain {m : M} {s : List UInt8} (h : put m = .ok s) : put (plainM m) = .ok s := by
  obtain ⟨h1, h2, t, h3, rfl⟩ := put_ok h
  rw [put_full _ (plain_shape m h1) (by rw [plain_vals]; exact h2), plain_num, h3, plain_head, plain_vals]

/-! Bytes. -/
theorem byteAt_nat (n : Int) (h : 0 ≤ n ∧ n < 256) : ((byteAt n 0).toNat : Int) = n := by
  unfold byteAt
  rw [UInt8.toNat_ofNat']
  simp
  try omega
theorem byteI_mid (pre post : List UInt8) (b : UInt8) : byteI (pre ++ b :: post) pre.length = (b.toNat : Int) := by
  unfold byteI
  simp [List.getD_eq_getElem?_getD]
theorem slice_mid (pre a post : List UInt8) (k : Nat) (h : a.length = k) : ((pre ++ (a ++ post)).drop pre.length).take k = a := by
  rw [List.drop_left, ← h, List.take_left]
theorem beGo_numB (n : Int) : ∀ (k : Nat) (acc : Int), beGo acc (numB n k) = acc * 256 ^ k + n % 256 ^ k
  | 0, acc => by simp [numB, beGo]; try omega
  | k + 1, acc => by
    have hb : ((byteAt n k).toNat : Int) = n / 256 ^ k % 256 := by
      unfold byteAt
      rw [UInt8.toNat_ofNat']
      have h1 := Int.emod_nonneg (n / 256 ^ k) (show (256 : Int) ≠ 0 by decide)
      have h2 := Int.emod_lt_of_pos (n / 256 ^ k) (show (0 : Int) < 256 by decide)
      omega
    have hm : n % 256 ^ (k + 1) = 256 ^ k * (n / 256 ^ k % 256) + n % 256 ^ k := by
      have h256 : (256 : Int) ^ (k + 1) = 256 ^ k * 256 := Int.pow_succ 256 k
      have hpos : (0 : Int) < 256 ^ k := Int.pow_pos (by decide)
      rw [h256]
      have h3 : n % (256 ^ k * 256) = n - 256 ^ k * 256 * (n / (256 ^ k * 256)) := Int.emod_def _ _
      have h4 : n / (256 ^ k * 256) = n / 256 ^ k / 256 := (Int.ediv_ediv_of_nonneg (Int.le_of_lt hpos)).symm
      have h5 : n / 256 ^ k % 256 = n / 256 ^ k - 256 * (n / 256 ^ k / 256) := Int.emod_def _ _
      have h6 : n % 256 ^ k = n - 256 ^ k * (n / 256 ^ k) := Int.emod_def _ _
      rw [h3, h4, h5, h6, Int.mul_sub, ← Int.mul_assoc]
      omega
    show beGo (256 * acc + ((byteAt n k).toNat : Int)) (numB n k) = _
    rw [beGo_numB n k, hb, hm, Int.add_mul, Int.pow_succ, Int.mul_comm 256 acc, Int.mul_assoc, Int.mul_comm 256 (256 ^ k), Int.mul_comm (n / 256 ^ k % 256)]
    omega
theorem beNum_numB (n : Int) (k : Nat) : beNum (numB n k) = n % 256 ^ k := by
  unfold beNum
  rw [beGo_numB]
  omega

/-! Registers. -/
def setRegs : M → List UInt8 → List Int → M
  | m, x :: l, v :: r => setRegs (setReg m x v) l r
  | m, _, _ => m
theorem getRegs_pairs (post : List UInt8) : ∀ (l : List UInt8) (vals : List Int) (pre : List UInt8) (m : M), l.length = vals.length → vals.all regOk = true →
    getRegs (pre ++ (pairs vals ++ post)) l m pre.length = .ok (setRegs m l vals, pre.length + (pairs vals).length)
  | [], [], pre, m, _, _ => by simp [getRegs, setRegs, pairs]
  | [x], [v], pre, m, _, h => by
    simp only [List.all_cons, List.all_nil, Bool.and_true, regOk_iff] at h
    have hb := byteAt_nat (16 * v) (by omega)
    show getRegs (pre ++ (byteAt (16 * v) 0 :: ([] ++ post))) [x] m pre.length = _
    unfold getRegs
    rw [if_pos (by simp), byteI_mid, hb]
    simp only [setRegs, pairs, List.length_cons, List.length_nil]
    rw [show 16 * v / 16 = v by omega]
  | x :: y :: l, v :: u :: r, pre, m, hl, h => by
    simp only [List.all_cons, Bool.and_eq_true, regOk_iff] at h
    obtain ⟨hv, hu, hr⟩ := h
    have hb := byteAt_nat (16 * v + u) (by omega)
    have ih := getRegs_pairs post l r (pre ++ [byteAt (16 * v + u) 0]) (setReg (setReg m x v) y u) (by simpa using hl) hr
    show getRegs (pre ++ (byteAt (16 * v + u) 0 :: (pairs r ++ post))) (x :: y :: l) m pre.length = _
    unfold getRegs
    rw [if_pos (by simp), byteI_mid, hb, show (16 * v + u) / 16 = v by omega, show (16 * v + u) % 16 = u by omega]
    rw [List.append_assoc, List.length_append] at ih
    refine ih.trans ?_
    simp only [setRegs, pairs, List.length_cons, List.length_nil]
    congr 2
    omega
  | [x], [], pre, m, hl, _ => by simp at hl
  | [], v :: r, pre, m, hl, _ => by simp at hl
  | [x], v :: u :: r, pre, m, hl, _ => by simp at hl
  | x :: y :: l, [], pre, m, hl, _ => by simp at hl
  | x :: y :: l, [v], pre, m, hl, _ => by simp at hl
theorem setRegs_are (m : M) : ∀ (l : List UInt8) (m0 : M), (∀ x ∈ l, isReg x = true) →
    setRegs m0 l (l.map (regVal m)) = ⟨m0.op, if (68 : UInt8) ∈ l then m.d else m0.d, m0.e, if (65 : UInt8) ∈ l then m.a else m0.a, if (66 : UInt8) ∈ l then m.b else m0.b, if (67 : UInt8) ∈ l then m.c else m0.c, m0.imm, m0.args⟩
  | [], m0, _ => by simp [setRegs]
  | x :: l, m0, h => by
    have hx := h x (by simp)
    have ih := setRegs_are m l (setReg m0 x (regVal m x)) (fun y hy => h y (by simp [hy]))
    show setRegs (setReg m0 x (regVal m x)) l (l.map (regVal m)) = _
    rw [ih]
    unfold isReg at hx
    simp only [Bool.or_eq_true, beq_iff_eq] at hx
    rcases hx with ((rfl | rfl) | rfl) | rfl <;> simp [setReg, regVal]

/-! The number. -/
theorem i32_id {n : Int} (h : -2147483648 ≤ n ∧ n ≤ 2147483647) : IntKind.i32.wrap n = n := by
  simp [IntKind.wrap, IntKind.bits, IntKind.signed]
  omega
theorem i32_low {n : Int} (h : -2147483648 ≤ n ∧ n ≤ 2147483647) : IntKind.i32.wrap (n % 256 ^ 4) = n := by
  simp [IntKind.wrap, IntKind.bits, IntKind.signed]
  omega
theorem sgn_back {n e : Int} {x : UInt8} {far : Bool} {t : List UInt8} (h : fitsB n x far e = .ok t) : sgnV x far (beNum t) = n ∧ t.length = (widthF x far).1 := by
  obtain ⟨h1, h2, rfl⟩ := fitsB_ok h
  rw [beNum_numB, numB_length]
  refine ⟨?_, rfl⟩
  unfold sgnV
  have hw : (widthF x far) = (2, -32768, 32767) ∨ (widthF x far) = (4, -2147483648, 2147483647) ∨ (widthF x far) = (1, -128, 127) ∨ (widthF x far) = (1, 0, 31) ∨ (widthF x far) = (1, 0, 255) ∨ (widthF x far) = (2, 0, 16383) ∨ (widthF x far) = (1, 0, 4) ∨ (widthF x far) = (1, 0, 1) ∨ (widthF x far) = (3, -8388608, 8388607) := by
    unfold widthF
    repeat' split
    all_goals simp
  rcases hw with hw | hw | hw | hw | hw | hw | hw | hw | hw <;> (rw [hw] at h1 h2 ⊢; simp at h1 h2 ⊢; first | omega | (split <;> omega))
theorem width_32 (x : UInt8) (far : Bool) : -2147483648 ≤ (widthF x far).2.1 ∧ (widthF x far).2.2 ≤ 2147483647 := by
  unfold widthF
  repeat' split
  all_goals simp
theorem callArgs_counts : ∀ (l : List Int) (n : Nat), counts n l = true → l = (List.range l.length).map fun k : Nat => ((n + k : Nat) : Int)
  | [], n, _ => rfl
  | x :: r, n, h => by
    simp only [counts, Bool.and_eq_true, beq_iff_eq] at h
    have ih := callArgs_counts r (n + 1) (by simpa using h.2)
    rw [List.length_cons, List.range_succ_eq_map, List.map_cons, List.map_map]
    rw [h.1]
    congr 1
    rw [ih, List.length_map, List.length_range]
    apply List.map_congr_left
    intro k _
    simp
    omega
theorem table_back (far : Bool) : ∀ (l : List Int) (t pre post : List UInt8), tableB l = .ok t → (List.range l.length).map (fun k : Nat => sgnV 116 far (beNum (((pre ++ (t ++ post)).drop (pre.length + 3 * k)).take 3))) = l
  | [], t, pre, post, _ => rfl
  | x :: r, t, pre, post, h => by
    simp only [tableB] at h
    cases hx : fitsB x 116 false 61 with
    | error k => rw [hx] at h; cases h
    | ok s =>
      rw [hx] at h
      cases hr : tableB r with
      | error k => rw [hr] at h; cases h
      | ok u =>
        rw [hr] at h
        cases h
        have hfar : widthF 116 far = widthF 116 false := by unfold widthF; simp
        have hx2 : fitsB x 116 far 61 = .ok s := by rw [← hx]; unfold fitsB; rw [hfar]
        obtain ⟨h1, h2⟩ := sgn_back hx2
        have h3 : s.length = 3 := by rw [h2]; unfold widthF; simp
        have ih := table_back far r u (pre ++ s) post hr
        rw [List.length_cons, List.range_succ_eq_map, List.map_cons, List.map_map]
        have e0 : ((pre ++ (s ++ u ++ post)).drop (pre.length + 3 * 0)).take 3 = s := by
          rw [Nat.mul_zero, Nat.add_zero, List.append_assoc]
          exact slice_mid pre s (u ++ post) 3 h3
        rw [e0, h1]
        congr 1
        refine Eq.trans (List.map_congr_left fun k _ => ?_) ih
        simp only [Function.comp_apply, List.append_assoc, List.length_append, h3]
        rw [show pre.length + 3 * (k + 1) = pre.length + 3 + 3 * k by omega]

theorem head_byte (m : M) (h : known m.op = true) : ((headB m).toNat : Int) = m.op + (if farOf m then 128 else 0) := by
  have hr := op_known m.op h
  unfold headB
  apply byteAt_nat
  split <;> omega
theorem far_num (m : M) (h : farOf m = true) : numF m.op = 98 ∧ m.e = 1 := by
  unfold farOf at h
  simp at h
  exact h
/-- What the registers leave for the number. -/
theorem getNum_back (m : M) (t pre post : List UInt8) (m1 : M) (hin : -2147483648 ≤ m.imm ∧ m.imm ≤ 2147483647) (hs : shapeOk m = true) (ht : numPart m = .ok t) (hop : m1.op = m.op) (himm : m1.imm = 0) (hargs : m1.args = []) (he : m1.e = if farOf m then 1 else 0) :
    ∃ m2, getNum (pre ++ (t ++ post)) m1 pre.length (farOf m) = .ok (m2, pre.length + t.length) ∧ fixE m2 = { m1 with e := (plainM m).e, imm := (plainM m).imm, args := (plainM m).args } := by
  obtain ⟨q0, q1, q2, q3, q4, q5, q6, q7⟩ := m1
  simp only [] at hop himm hargs he
  subst hop himm hargs
  have hlen : (pre ++ (t ++ post)).length = pre.length + t.length + post.length := by simp; omega
  have hsl : ∀ k, t.length = k → ((pre ++ (t ++ post)).drop pre.length).take k = t := fun k hk => slice_mid pre t post k hk
  have hsh := hs
  unfold shapeOk at hsh
  have h29 : m.op = 29 → m.e = 1 := fun h => by
    rw [if_neg (by omega), if_pos h] at hsh
    simp at hsh
    exact hsh.2.2
  unfold numPart at ht
  by_cases n0 : numF m.op = 0
  · rw [if_pos n0] at ht
    cases ht
    refine ⟨_, by unfold getNum; rw [if_pos n0]; rfl, ?_⟩
    have hf : farOf m = false := by unfold farOf; rw [n0]; rfl
    have p1 : (plainM m).imm = 0 := if_pos (.inl n0)
    have p2 : (plainM m).args = [] := if_neg (by rw [n0]; decide)
    unfold fixE
    rw [p1, p2]
    by_cases h : m.op = 29
    · have p3 : (plainM m).e = 1 := (if_pos (.inr (.inr h))).trans (h29 h)
      rw [if_pos h, p3]
    · have p3 : (plainM m).e = 0 := if_neg (by rw [n0]; simp [h])
      rw [if_neg h, p3]
      have : q2 = 0 := by rw [he, hf]; rfl
      rw [← this]
  rw [if_neg n0] at ht
  have hn29 : m.op ≠ 29 := fun h => by rw [h] at n0; exact n0 op29.2
  have hfix : ∀ m2 : M, m2.op = m.op → fixE m2 = m2 := fun m2 h => by unfold fixE; rw [h, if_neg hn29]
  by_cases n1 : numF m.op = 110
  · rw [if_pos n1] at ht
    cases ht
    have h28 := num110 n1
    rw [if_pos h28] at hsh
    simp only [Bool.and_eq_true, decide_eq_true_eq, beq_iff_eq] at hsh
    obtain ⟨_, ⟨hc, hl⟩, _⟩ := hsh
    have hf : farOf m = false := by unfold farOf; rw [n1]; rfl
    have p1 : (plainM m).imm = m.imm := if_neg (by rw [n1]; decide)
    have p2 : (plainM m).args = m.args := if_pos (.inl n1)
    have p3 : (plainM m).e = 0 := if_neg (by rw [n1]; simp [hn29])
    have e1 : (numB (m.args.length : Int) 1) = [byteAt (m.args.length : Int) 0] := rfl
    have hb := byteAt_nat (m.args.length : Int) (by omega)
    have hbI : byteI (pre ++ (numB (m.args.length : Int) 1 ++ numB m.imm 4 ++ post)) pre.length = (m.args.length : Int) := by
      rw [e1, List.append_assoc]
      exact (byteI_mid pre _ _).trans hb
    have hi4 : ((pre ++ (numB (m.args.length : Int) 1 ++ numB m.imm 4 ++ post)).drop (pre.length + 1)).take 4 = numB m.imm 4 := by
      have h := slice_mid (pre ++ [byteAt (m.args.length : Int) 0]) (numB m.imm 4) post 4 (numB_length _ _)
      rw [List.length_append] at h
      rw [e1]
      simpa using h
    have hcnt : m.args = callArgs m.args.length := by
      have h := callArgs_counts m.args 0 hc
      refine h.trans ?_
      unfold callArgs
      apply List.map_congr_left
      intro k _
      simp
    refine ⟨⟨m.op, q1, q2, q3, q4, q5, m.imm, m.args⟩, ?_, ?_⟩
    · unfold getNum
      rw [if_neg n0, if_pos n1, hbI, hi4, beNum_numB, i32_low hin, if_neg (by simp [numB_length]; try omega), if_neg (by simp [numB_length]; try omega), Int.toNat_natCast, Nat.min_eq_left (by omega), ← hcnt]
      simp [numB_length]
    · refine (hfix _ (by rfl)).trans ?_
      rw [p1, p2, p3]
      have : q2 = 0 := by rw [he, hf]; rfl
      rw [← this]
  rw [if_neg n1] at ht
  by_cases n2 : numF m.op = 101
  · rw [if_pos n2] at ht
    cases ht
    have h50 := num101 n2
    rw [if_neg (by omega), if_neg (by omega), if_pos (.inr h50)] at hsh
    simp at hsh
    have hf : farOf m = false := by unfold farOf; rw [n2]; rfl
    have p1 : (plainM m).imm = 0 := if_pos (.inr (.inl n2))
    have p2 : (plainM m).args = [] := if_neg (by rw [n2]; decide)
    have p3 : (plainM m).e = m.e := if_pos (.inl n2)
    have hb := byteAt_nat m.e (by rcases hsh.2 with h | h <;> omega)
    refine ⟨⟨m.op, q1, m.e, q3, q4, q5, 0, []⟩, ?_, ?_⟩
    · have hbI : byteI (pre ++ (numB m.e 1 ++ post)) pre.length = m.e := (byteI_mid pre _ _).trans hb
      unfold getNum
      rw [if_neg n0, if_neg n1, if_pos n2, hbI, if_neg (by simp [numB_length]; try omega)]
      simp [numB_length]
    · refine (hfix _ (by rfl)).trans ?_
      rw [p1, p2, p3]
  rw [if_neg n2] at ht
  by_cases n3 : numF m.op = 116
  · rw [if_pos n3] at ht
    cases htt : tableB m.args with
    | error k => rw [htt] at ht; cases ht
    | ok u =>
      rw [htt] at ht
      cases ht
      have hn28 : m.op ≠ 28 := fun h => by rw [h] at n1; exact n1 op28.2
      have hn50 : m.op ≠ 50 := fun h => by rw [h] at n2; exact n2 op50
      rw [if_neg hn28, if_neg hn29, if_neg (by rw [n3]; simp [hn50]), if_pos n3] at hsh
      simp only [Bool.and_eq_true, decide_eq_true_eq] at hsh
      obtain ⟨_, hl2, hl65⟩ := hsh
      have hf : farOf m = false := by unfold farOf; rw [n3]; rfl
      have p1 : (plainM m).imm = 0 := if_pos (.inr (.inr n3))
      have p2 : (plainM m).args = m.args := if_pos (.inr n3)
      have p3 : (plainM m).e = 0 := if_neg (by rw [n3]; simp [hn29])
      have e1 : (numB (m.args.length : Int) 1) = [byteAt (m.args.length : Int) 0] := rfl
      have hb := byteAt_nat (m.args.length : Int) (by omega)
      have hbI : byteI (pre ++ (numB (m.args.length : Int) 1 ++ u ++ post)) pre.length = (m.args.length : Int) := by
        rw [e1, List.append_assoc]
        exact (byteI_mid pre _ _).trans hb
      have hul := tableB_len _ _ htt
      have htab : tableArgs (pre ++ (numB (m.args.length : Int) 1 ++ u ++ post)) pre.length (farOf m) m.args.length = m.args := by
        have h := table_back (farOf m) m.args u (pre ++ [byteAt (m.args.length : Int) 0]) post htt
        rw [List.length_append] at h
        rw [e1]
        unfold tableArgs
        simpa using h
      refine ⟨⟨m.op, q1, q2, q3, q4, q5, 0, m.args⟩, ?_, ?_⟩
      · unfold getNum
        rw [if_neg n0, if_neg n1, if_neg n2, if_pos n3, hbI, Int.toNat_natCast, htab, if_neg (by simp [numB_length]; try omega), if_neg (by simp; try omega), if_neg (by simp [numB_length, hul]; try omega)]
        simp [numB_length, hul]
        omega
      · refine (hfix _ (by rfl)).trans ?_
        rw [p1, p2, p3]
        have : q2 = 0 := by rw [he, hf]; rfl
        rw [← this]
  rw [if_neg n3] at ht
  have hfit : ∃ k, fitsB m.imm (numF m.op) (farOf m) k = .ok t := by
    by_cases n4 : numF m.op = 98
    · rw [if_pos n4] at ht
      exact ⟨61, by rw [n4]; exact ht⟩
    · rw [if_neg n4] at ht
      exact ⟨32, ht⟩
  obtain ⟨k, hfit⟩ := hfit
  obtain ⟨hs1, hs2⟩ := sgn_back hfit
  have p1 : (plainM m).imm = m.imm := if_neg (by
    rintro (h | h | h)
    · exact n0 h
    · exact n2 h
    · exact n3 h)
  have p2 : (plainM m).args = [] := if_neg (by
    rintro (h | h)
    · exact n1 h
    · exact n3 h)
  have p3 : (plainM m).e = q2 := by
    rw [he]
    by_cases n4 : numF m.op = 98
    · have hn28 : m.op ≠ 28 := fun h => by rw [h] at n1; exact n1 op28.2
      rw [if_neg hn28, if_neg hn29, if_pos (.inl n4)] at hsh
      simp at hsh
      refine (if_pos (.inr (.inl n4))).trans ?_
      unfold farOf
      rw [n4]
      rcases hsh.2 with h | h <;> rw [h] <;> rfl
    · refine (if_neg (by
        rintro (h | h | h)
        · exact n2 h
        · exact n4 h
        · exact hn29 h)).trans ?_
      unfold farOf
      rw [decide_eq_false n4]
      rfl
  refine ⟨⟨m.op, q1, q2, q3, q4, q5, m.imm, []⟩, ?_, ?_⟩
  · unfold getNum
    rw [if_neg n0, if_neg n1, if_neg n2, if_neg n3]
    by_cases n4 : numF m.op = 119
    · have hw : (widthF (numF m.op) (farOf m)).1 = 4 := by rw [n4]; unfold widthF; simp
      have ht2 := (fitsB_ok hfit).2.2
      rw [hw] at hs2 ht2
      rw [if_pos n4, hsl 4 hs2, if_neg (by simp; try omega), hs2]
      rw [ht2, beNum_numB, i32_low hin]
    · rw [if_neg n4, ← hs2, hsl _ rfl, if_neg (by simp; try omega), hs1, i32_id hin]
  · refine (hfix _ (by rfl)).trans ?_
    rw [p1, p2, p3]

/-- P18.6: what was put is got again, whatever stands behind it; what its Op has not is 0. -/
theorem get_put {m : M} {s : List UInt8} (hin : -2147483648 ≤ m.imm ∧ m.imm ≤ 2147483647) (h : put m = .ok s) (r : List UInt8) : getM (s ++ r) = .ok (plainM m, s.length) := by
  have hpp := put_plain h
  obtain ⟨h1, h2, t, h3, rfl⟩ := put_ok h
  have hk : known m.op = true := by
    unfold shapeOk at h1
    simp only [Bool.and_eq_true] at h1
    exact h1.1
  have hr := op_known m.op hk
  have hhd := head_byte m hk
  have hb0 : byteI (headB m :: (pairs (valsM m) ++ t) ++ r) 0 = m.op + (if farOf m then 128 else 0) := hhd
  have hop : opB (headB m :: (pairs (valsM m) ++ t) ++ r) = m.op := by
    unfold opB
    rw [hb0]
    split <;> omega
  have hfar : farB (headB m :: (pairs (valsM m) ++ t) ++ r) = farOf m := by
    unfold farB
    rw [hb0]
    cases farOf m <;> simp <;> omega
  have hst : startM (headB m :: (pairs (valsM m) ++ t) ++ r) = ⟨m.op, 0, if farOf m then 1 else 0, 0, 0, 0, 0, []⟩ := by unfold startM; rw [hop, hfar]
  have hgr := getRegs_pairs (t ++ r) (regsF m.op) (valsM m) [headB m] ⟨m.op, 0, if farOf m then 1 else 0, 0, 0, 0, 0, []⟩ (valsM_length m).symm h2
  have hsr := setRegs_are m (regsF m.op) ⟨m.op, 0, if farOf m then 1 else 0, 0, 0, 0, 0, []⟩ (regs_are m.op)
  have hgn := getNum_back m t (headB m :: pairs (valsM m)) r ⟨m.op, if (68 : UInt8) ∈ regsF m.op then m.d else 0, if farOf m then 1 else 0, if (65 : UInt8) ∈ regsF m.op then m.a else 0, if (66 : UInt8) ∈ regsF m.op then m.b else 0, if (67 : UInt8) ∈ regsF m.op then m.c else 0, 0, []⟩ hin h1 h3 rfl rfl rfl rfl
  obtain ⟨m2, hg2, hf2⟩ := hgn
  have eapp : headB m :: (pairs (valsM m) ++ t) ++ r = [headB m] ++ (pairs (valsM m) ++ (t ++ r)) := by simp
  have eapp2 : headB m :: (pairs (valsM m) ++ t) ++ r = (headB m :: pairs (valsM m)) ++ (t ++ r) := by simp
  unfold getM getRaw
  rw [hop, hfar, hst, if_neg (by simp), if_neg (by
    rw [hk]
    cases hf : farOf m
    · simp
    · simp [(far_num m hf).1])]
  rw [show valsM m = (regsF m.op).map (regVal m) from rfl] at hgr
  rw [hsr] at hgr
  rw [show (regsF m.op).map (regVal m) = valsM m from rfl] at hgr
  rw [show [headB m].length + (pairs (valsM m)).length = (headB m :: pairs (valsM m)).length by simp; omega, show [headB m].length = 1 from rfl, ← eapp] at hgr
  dsimp only at hgr hf2
  rw [hgr]
  dsimp only
  rw [eapp2, hg2]
  dsimp only
  rw [hf2]
  have hplain : ({ op := m.op, d := if (68 : UInt8) ∈ regsF m.op then m.d else 0, e := (plainM m).e, a := if (65 : UInt8) ∈ regsF m.op then m.a else 0, b := if (66 : UInt8) ∈ regsF m.op then m.b else 0, c := if (67 : UInt8) ∈ regsF m.op then m.c else 0, imm := (plainM m).imm, args := (plainM m).args } : M) = plainM m := rfl
  rw [hplain, hpp]
  simp only []
  rw [if_pos]
  · simp
    omega
  · rw [show (headB m :: pairs (valsM m)).length + t.length = (headB m :: (pairs (valsM m) ++ t)).length by simp; omega, ← eapp2]
    exact List.take_left.symm
/-- P18.6: nor do one's bytes begin with another's. -/
theorem put_prefix {m k : M} {s r : List UInt8} (hm : -2147483648 ≤ m.imm ∧ m.imm ≤ 2147483647) (hk : -2147483648 ≤ k.imm ∧ k.imm ≤ 2147483647) (h1 : put m = .ok s) (h2 : put k = .ok (s ++ r)) : plainM m = plainM k := by
  have a := get_put hm h1 r
  have b := get_put hk h2 []
  rw [List.append_nil, a] at b
  injection b with b
  exact congrArg Prod.fst b
theorem put_same {m k : M} {s t : List UInt8} (h1 : put m = .ok s) (h2 : put k = .ok t) (h : plainM m = plainM k) : s = t := by
  have a := put_plain h1
  have b := put_plain h2
  rw [h, b] at a
  injection a with a
  exact a.symm
end
section
open Go

theorem has_reg (op : Int) : decide ((68 : UInt8) ∈ fieldsOf op) = decide ((68 : UInt8) ∈ regsF op) ∧ decide ((65 : UInt8) ∈ fieldsOf op) = decide ((65 : UInt8) ∈ regsF op) := by
  have h1 := info_all (fun _ _ f _ => decide ((68 : UInt8) ∈ f) == decide ((68 : UInt8) ∈ (splitF f).1)) (fun _ => by decide) (by decide +kernel) op
  have h2 := info_all (fun _ _ f _ => decide ((65 : UInt8) ∈ f) == decide ((65 : UInt8) ∈ (splitF f).1)) (fun _ => by decide) (by decide +kernel) op
  exact ⟨eq_of_beq h1, eq_of_beq h2⟩

/-- A register set: D (68) or A (65). -/
def setR (m : M) (x : UInt8) (r : Int) : M := if x = 68 then { m with d := r } else { m with a := r }
theorem setR_op (m : M) (x : UInt8) (r : Int) : (setR m x r).op = m.op := by unfold setR; split <;> rfl
theorem setR_imm (m : M) (x : UInt8) (r : Int) : (setR m x r).imm = m.imm := by unfold setR; split <;> rfl
theorem setR_shape (m : M) (x : UInt8) (r : Int) (h28 : m.op ≠ 28) (h29 : m.op ≠ 29) : shapeOk (setR m x r) = shapeOk m := by
  have key : ∀ m' : M, m'.op = m.op → m'.e = m.e → m'.args = m.args → shapeOk m' = shapeOk m := by
    intro m' h1 h2 h3
    unfold shapeOk
    rw [h1, h2, h3, if_neg h28, if_neg h29, if_neg h28, if_neg h29]
  unfold setR
  split
  · exact key _ rfl rfl rfl
  · exact key _ rfl rfl rfl
theorem setR_num (m : M) (x : UInt8) (r : Int) : numPart (setR m x r) = numPart m := by unfold setR; split <;> rfl
theorem setR_head (m : M) (x : UInt8) (r : Int) : headB (setR m x r) = headB m := by unfold setR; split <;> rfl
theorem setR_val (m : M) (x y : UInt8) (r : Int) (hx : x = 68 ∨ x = 65) : regVal (setR m x r) y = if y = x then r else regVal m y := by
  rcases hx with rfl | rfl
  · have e : setR m 68 r = { m with d := r } := by unfold setR; rw [if_pos rfl]
    rw [e]
    unfold regVal
    by_cases h1 : y = 68
    · rw [if_pos h1, if_pos h1]
    · rw [if_neg h1, if_neg h1, if_neg h1]
  · have e : setR m 65 r = { m with a := r } := by unfold setR; rw [if_neg (by decide)]
    rw [e]
    unfold regVal
    by_cases h1 : y = 68
    · have h2 : ¬ y = 65 := by rw [h1]; decide
      rw [if_pos h1, if_neg h2, if_pos h1]
    · by_cases h2 : y = 65
      · rw [if_neg h1, if_pos h2, if_pos h2]
      · rw [if_neg h1, if_neg h2, if_neg h2, if_neg h1, if_neg h2]
theorem setR_vals_no (m : M) (x : UInt8) (r : Int) (hx : x = 68 ∨ x = 65) (h : x ∉ regsF m.op) : valsM (setR m x r) = valsM m := by
  unfold valsM
  rw [setR_op]
  apply List.map_congr_left
  intro y hy
  rw [setR_val m x y r hx]
  refine if_neg ?_
  intro e
  rw [e] at hy
  exact h hy
/-- A register that the Op has not plays no part. -/
theorem put_not {m : M} {x : UInt8} {s : List UInt8} (r : Int) (hx : x = 68 ∨ x = 65) (h28 : m.op ≠ 28) (h29 : m.op ≠ 29) (hp : put m = .ok s) (h : x ∉ regsF m.op) : put (setR m x r) = .ok s := by
  obtain ⟨h1, h2, t, h3, rfl⟩ := put_ok hp
  rw [put_full _ (by rw [setR_shape m x r h28 h29]; exact h1) (by rw [setR_vals_no m x r hx h]; exact h2), setR_num, h3, setR_head, setR_vals_no m x r hx h]
theorem put_may {m : M} {x : UInt8} {s : List UInt8} (r : Int) (hx : x = 68 ∨ x = 65) (hin : -2147483648 ≤ m.imm ∧ m.imm ≤ 2147483647) (h28 : m.op ≠ 28) (h29 : m.op ≠ 29) (hp : put m = .ok s) (h : x ∈ regsF m.op) (hr : 0 ≤ r ∧ r < 16) :
    ∃ t, put (setR m x r) = .ok t ∧ t.length = s.length ∧ (t = s ↔ r = regVal m x) := by
  obtain ⟨h1, h2, t, h3, hs⟩ := put_ok hp
  have hall : (valsM (setR m x r)).all regOk = true := by
    rw [List.all_eq_true] at h2 ⊢
    intro v hv
    unfold valsM at hv
    rw [setR_op] at hv
    obtain ⟨y, hy, rfl⟩ := List.mem_map.1 hv
    rw [setR_val m x y r hx]
    split
    · rw [regOk_iff]; exact hr
    · exact h2 _ (List.mem_map.2 ⟨y, hy, rfl⟩)
  have hput : put (setR m x r) = .ok (headB m :: (pairs (valsM (setR m x r)) ++ t)) := by
    rw [put_full _ (by rw [setR_shape m x r h28 h29]; exact h1) hall, setR_num, h3, setR_head]
  refine ⟨_, hput, ?_, ?_⟩
  · rw [hs]
    simp [pairs_length, valsM_length, setR_op]
  · constructor
    · intro e
      have hq := put_prefix (r := []) (by rw [setR_imm]; exact hin) hin hput (by rw [List.append_nil, e]; exact hp)
      have hv := plain_vals (setR m x r)
      rw [hq, plain_vals] at hv
      unfold valsM at hv
      rw [setR_op] at hv
      have hxx := List.map_inj_left.1 hv x h
      rw [setR_val m x x r hx, if_pos rfl] at hxx
      exact hxx.symm
    · intro e
      have : setR m x r = m := by
        rcases hx with rfl | rfl
        · have e : r = m.d := e
          unfold setR
          rw [if_pos rfl, e]
        · have e : r = m.a := e
          unfold setR
          rw [if_neg (by decide), e]
      rw [this] at hput ⊢
      rw [hp] at hput
      injection hput with hput
      exact hput.symm
theorem put_bad {m : M} {x : UInt8} {s : List UInt8} (r : Int) (hx : x = 68 ∨ x = 65) (h28 : m.op ≠ 28) (h29 : m.op ≠ 29) (hp : put m = .ok s) (h : x ∈ regsF m.op) (hr : ¬ (0 ≤ r ∧ r < 16)) : put (setR m x r) = .error 31 := by
  obtain ⟨h1, _, _, _, _⟩ := put_ok hp
  unfold put
  rw [if_neg (by rw [setR_shape m x r h28 h29, h1]; simp)]
  refine if_pos ?_
  rw [← Bool.not_eq_true, List.all_eq_true]
  intro hall
  have := hall r (List.mem_map.2 ⟨x, by rw [setR_op]; exact h, by rw [setR_val m x x r hx, if_pos rfl]⟩)
  rw [regOk_iff] at this
  exact hr this
end
section
open Go Go.RowKit Go.ChangeMaps Go.Proofs.YtmoplcchiadlpaaDoorW.PrintWords

theorem putE_err {m : M} (h : ¬ putE m = 0) : putS m = [] := by
  unfold putE at h
  unfold putS
  cases hp : put m with
  | ok s => rw [hp] at h; exact absurd rfl h
  | error k => rfl
theorem put_of {m : M} (h : putE m = 0) : put m = .ok (putS m) := by
  unfold putE at h
  unfold putS
  cases hp : put m with
  | ok s => rfl
  | error k =>
    rw [hp] at h
    have h : k = 0 := h
    rcases put_err hp with h1 | h1 | h1 | h1 <;> omega
theorem putS_short {m : M} (h : putE m = 0) : (putS m).length ≤ 300 := by
  have hp := put_of h
  have hs := put_size hp
  obtain ⟨h1, _, _, _, _⟩ := put_ok hp
  have hr := regs_short m.op
  have hw := width_le (numF m.op) (farOf m)
  unfold sizeM at hs
  rw [if_neg (by rw [h1]; simp)] at hs
  by_cases n0 : numF m.op = 0
  · rw [if_pos n0] at hs; omega
  by_cases n1 : numF m.op = 110
  · rw [if_neg n0, if_pos n1] at hs; omega
  by_cases n2 : numF m.op = 116
  · have := shape_116 m h1 n2
    rw [if_neg n0, if_neg n1, if_pos n2] at hs; omega
  · rw [if_neg n0, if_neg n1, if_neg n2] at hs; omega
theorem get_back {m : M} (hin : -2147483648 ≤ m.imm ∧ m.imm ≤ 2147483647) (h : putE m = 0) (r : List UInt8) : getI (putS m ++ r) = plainM m ∧ getN (putS m ++ r) = ((putS m).length : Int) ∧ getE (putS m ++ r) = 0 := by
  have hg := get_put hin (put_of h) r
  unfold getI getN getE
  rw [hg]
  exact ⟨rfl, rfl, rfl⟩
theorem same_refl (m : M) : sameM m m = true := (sameM_iff m m).2 rfl
end
end Go.Proofs.YtmoplcchiadlpaaDoor.Jc
