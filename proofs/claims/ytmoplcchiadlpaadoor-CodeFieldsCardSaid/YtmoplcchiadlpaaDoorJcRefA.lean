/- The references' smaller functions by plain words: fields, has an Op a field, are two instructions the same. -/
import Derived.Test.YtmoplcchiadlpaaDoorJcGet
import Derived.Test.YtmoplcchiadlpaaDoorSx3
set_option linter.unusedVariables false
set_option linter.unusedSimpArgs false
namespace Go.Proofs.YtmoplcchiadlpaaDoor.Jc
open Go Go.RowKit Go.ChangeMaps Go.Proofs.YtmoplcchiadlpaaDoorW.PrintWords Go.Proofs.YtmoplcchiadlpaaDoorW.PrintLast Go.Proofs.YtmoplcchiadlpaaDoorW.PrintMore

theorem drawn_below {w w' : World} (h : Drawn0 w w') : Below w.heap.size w w' := by
  obtain ⟨n, rfl⟩ := h.out
  exact ⟨rfl, rfl, rfl, Nat.le_refl _, fun _ _ => rfl⟩
theorem op_range (op : Int) (h : ¬ (1 ≤ op ∧ op ≤ 51)) : fieldsOf op = [] ∧ known op = false := by
  have hk : known op = false := by
    cases hk : known op
    · rfl
    · exact absurd (op_known op hk) h
  refine ⟨?_, hk⟩
  unfold known at hk
  unfold fieldsOf
  cases hi : info op tab with
  | none => rfl
  | some x => rw [hi] at hk; cases hk
theorem fields_in : ((List.range 52).all fun n => decide (S.jacquardref18_Fields.f 8 (n : Int) = some (bs (fieldsOf n)))) = true := by decide +kernel
theorem fields_f (op : Int) : S.jacquardref18_Fields.f 8 op = some (bs (fieldsOf op)) := by
  by_cases h : 0 ≤ op ∧ op ≤ 51
  · have h1 := List.all_eq_true.1 fields_in op.toNat (by rw [List.mem_range]; omega)
    rw [decide_eq_true_eq, Int.toNat_of_nonneg h.1] at h1
    exact h1
  · rw [(op_range op (by omega)).1]
    have hn : ∀ k : Int, 0 ≤ k → k ≤ 51 → ¬ op = k := fun k h1 h2 h3 => by omega
    have hb : ∀ k : Int, 0 ≤ k → k ≤ 51 → (op == k) = false := fun k h1 h2 => by simpa using hn k h1 h2
    by_cases h5 : op ≥ 5
    · have h43 : op ≥ 43 := by omega
      have h17 : decide (op ≤ 17) = false := by simp; omega
      have h48 : decide (op ≤ 48) = false := by simp; omega
      simp [S.jacquardref18_Fields.f, S.jacquardref18_Fields.j0, S.jacquardref18_Fields.j1, S.jacquardref18_Fields.j2, S.jacquardref18_Fields.j3, S.jacquardref18_Fields.j4, S.jacquardref18_Fields.j5, h5, h43, h17, h48, hn, hb]
    · have h43 : ¬ op ≥ 43 := by omega
      simp [S.jacquardref18_Fields.f, S.jacquardref18_Fields.j0, S.jacquardref18_Fields.j1, S.jacquardref18_Fields.j2, S.jacquardref18_Fields.j3, S.jacquardref18_Fields.j4, S.jacquardref18_Fields.j5, h5, h43, hn, hb]
theorem fields_any (op : Int) (w : World) : Calls Tryd.prog 50 #[.int .i64 op] w fun e w' => e = .returned (.string (bs (fieldsOf op))) ∧ Below w.heap.size w w' :=
  (S.jacquardref18_Fields.calls 8 op _ w (fields_f op)).mono fun e w' h => ⟨h.1, drawn_below h.2⟩

theorem bt_bs (l : List UInt8) (i : Nat) (h : i < l.length) : bt (bs l) (i : Int) = ((l[i]'h).toNat : Int) := by
  have hs := bs_size l
  unfold bt
  simp only [Int.toNat_natCast]
  first | rw [dif_pos (by rw [hs]; exact h)] | (simp [hs, h]; done)
  rfl
theorem wrap_nat {n : Nat} (h : n < 1000000) : wrap64 ((n : Int) + 1) = ((n + 1 : Nat) : Int) := by
  unfold wrap64
  omega
theorem lhas_loop (x : UInt8) (l : List UInt8) (hl : l.length < 1000) : ∀ (d i k : Nat), i + d = l.length → d < k → S.jacquardlaw18_has.l0 k (x.toNat : Int) (bs l) (i : Int) = some (decide (x ∈ l.drop i))
  | 0, i, k, hd, hk => by
    obtain ⟨k, rfl⟩ : ∃ m, k = m + 1 := ⟨k - 1, by omega⟩
    have hs := bs_size l
    simp only [S.jacquardlaw18_has.l0]
    rw [if_neg (by rw [hs]; omega), List.drop_of_length_le (by omega)]
    simp
  | d + 1, i, k, hd, hk => by
    obtain ⟨k, rfl⟩ : ∃ m, k = m + 1 := ⟨k - 1, by omega⟩
    have hs := bs_size l
    have hi : i < l.length := by omega
    have ih := lhas_loop x l hl d (i + 1) k (by omega) (by omega)
    simp only [S.jacquardlaw18_has.l0]
    rw [if_pos (by rw [hs]; omega), if_pos (by omega), bt_bs l i hi, List.drop_eq_getElem_cons hi]
    by_cases hx : l[i] = x
    · rw [if_pos (by rw [hx])]
      congr 1
      symm
      rw [decide_eq_true_eq, hx]
      exact List.mem_cons_self
    · have hne : ¬ ((l[i].toNat : Int) = (x.toNat : Int)) := fun h => hx (UInt8.toNat_inj.1 (by omega))
      have hne2 : ¬ x = l[i] := fun h => hx h.symm
      rw [if_neg hne, wrap_nat (by omega), ih]
      congr 1
      rw [decide_eq_decide]
      exact ⟨fun h => List.mem_cons_of_mem _ h, fun h => (List.mem_cons.1 h).resolve_left hne2⟩
theorem lhas_any (op : Int) (x : UInt8) (w : World) : Calls Tryd.prog 29 #[.int .i64 op, .int .u8 x.toNat] w fun e w' => e = .returned (.bool (decide (x ∈ fieldsOf op))) ∧ Below w.heap.size w w' := by
  have hl := fields_short op
  have h : S.jacquardlaw18_has.f 8 op (x.toNat : Int) = some (decide (x ∈ fieldsOf op)) := by
    unfold S.jacquardlaw18_has.f
    rw [fields_f]
    exact lhas_loop x (fieldsOf op) (by omega) (fieldsOf op).length 0 8 (by omega) (by omega)
  exact (S.jacquardlaw18_has.calls 8 op _ _ w h).mono fun e w' h => ⟨h.1, drawn_below h.2⟩

/-- Are two instructions the same, in all? -/
def sameM (a b : M) : Bool := a.op == b.op && (a.d == b.d && (a.e == b.e && (a.a == b.a && (a.b == b.b && (a.c == b.c && (a.imm == b.imm && decide (a.args = b.args)))))))
theorem sameM_iff (a b : M) : sameM a b = true ↔ a = b := by
  unfold sameM
  cases a
  cases b
  simp [and_assoc]
theorem nums_loop (l r : List Int) (hl : l.length = r.length) (hs : l.length < 1000000) : ∀ (d i k : Nat), i + d = l.length → d < k → S.jacquardref06_Nums.l0 k l r (i : Int) = some (decide (l.drop i = r.drop i))
  | 0, i, k, hd, hk => by
    obtain ⟨k, rfl⟩ : ∃ m, k = m + 1 := ⟨k - 1, by omega⟩
    simp only [S.jacquardref06_Nums.l0]
    rw [if_neg (by omega), List.drop_of_length_le (by omega), List.drop_of_length_le (by omega)]
    simp
  | d + 1, i, k, hd, hk => by
    obtain ⟨k, rfl⟩ : ∃ m, k = m + 1 := ⟨k - 1, by omega⟩
    have ih := nums_loop l r hl hs d (i + 1) k (by omega) (by omega)
    have hi : i < l.length := by omega
    have hj : i < r.length := by omega
    have e1 : Go.Proofs.YtmoplcchiadlpaaDoorW.PrintWords.rd l (i : Int) = l[i] := by unfold Go.Proofs.YtmoplcchiadlpaaDoorW.PrintWords.rd; simp [hi]
    have e2 : Go.Proofs.YtmoplcchiadlpaaDoorW.PrintWords.rd r (i : Int) = r[i] := by unfold Go.Proofs.YtmoplcchiadlpaaDoorW.PrintWords.rd; simp [hj]
    simp only [S.jacquardref06_Nums.l0]
    rw [if_pos (by omega), if_pos (by omega), if_pos (by omega), e1, e2, List.drop_eq_getElem_cons hi, List.drop_eq_getElem_cons hj]
    by_cases h : l[i] = r[i]
    · rw [if_pos h, wrap_nat (by omega), ih]
      congr 1
      rw [decide_eq_decide, h]
      exact ⟨fun e => by rw [e], fun e => (List.cons.inj e).2⟩
    · rw [if_neg h]
      congr 1
      symm
      rw [decide_eq_false_iff_not]
      exact fun e => h (List.cons.inj e).1
theorem same_f (a b : M) (ha : a.args.length < 1000000) : S.jacquardref06_SameMach.f (a.args.length + 1) a.op a.d a.e a.a a.b a.c a.imm a.args b.op b.d b.e b.a b.b b.c b.imm b.args = some (sameM a b) := by
  have hn : S.jacquardref06_Nums.f (a.args.length + 1) a.args b.args = some (decide (a.args = b.args)) := by
    unfold S.jacquardref06_Nums.f
    by_cases hl : a.args.length = b.args.length
    · rw [if_pos (by omega)]
      exact nums_loop a.args b.args hl ha a.args.length 0 _ (by omega) (by omega)
    · rw [if_neg (by omega)]
      have : ¬ a.args = b.args := fun h => hl (by rw [h])
      simp [this]
  unfold S.jacquardref06_SameMach.f sameM
  rw [hn]
  repeat' split
  all_goals simp [*]
theorem same_any (a b : M) (A B : Option Addr) (ca cb : Nat) (w : World) (ha : ArgsIn w a A ca) (hb : ArgsIn w b B cb) (hs : a.args.length < 1000000) :
    Calls Tryd.prog 26 #[.agg (cellsM a A ca), .agg (cellsM b B cb)] w fun e w' => e = .returned (.bool (sameM a b)) ∧ Below w.heap.size w w' :=
  S.jacquardref06_SameMach.calls (a.args.length + 1) a.op a.d a.e a.a a.b a.c a.imm A ca a.args b.op b.d b.e b.a b.b b.c b.imm B cb b.args _ w (Kd.C_of_reads (d := (0 : Int)) (readsInt_of.1 ha.reads)) ha.cap (Kd.C_of_reads (d := (0 : Int)) (readsInt_of.1 hb.reads)) hb.cap (same_f a b hs)
end Go.Proofs.YtmoplcchiadlpaaDoor.Jc
