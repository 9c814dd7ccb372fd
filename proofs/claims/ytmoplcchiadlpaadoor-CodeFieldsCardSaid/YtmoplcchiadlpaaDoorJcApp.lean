/- append, of the first few cells of a literal. Strings in rows. -/
import Derived.Test.YtmoplcchiadlpaaDoorJcMem2
import Derived.Test.YtmoplcchiadlpaaDoorJc1
import Derived.Lib.Join
import Derived.Lib.ItoaLen
set_option linter.unusedVariables false
set_option linter.unusedSimpArgs false
namespace Go.Proofs.YtmoplcchiadlpaaDoor.Jc
open Go Go.RowKit Go.ChangeMaps Go.Proofs.YtmoplcchiadlpaaDoorW.PrintWords

section
variable {P : Program} {ops : Array Oper} {rest : List Oper} {o : Oper} {a : Act} {Q : Exit → Act → World → Prop}
theorem app_lits {w0 W : World} (base : Nat) (hgd : o.guard = none) (s x : Operand) (t e : TypeId) (z : Value) (bytes : Nat)
    (ho : o.op = .call { callee := .builtin .append, args := #[s, x], argTypes := #[t, t] })
    (ht : P.underlying t = some (.slice e)) (hinfo : (P.info? e).map (fun i => (i.zero, i.size, i.bytes)) = some (some z, 1, bytes)) (hz : z.cells.size = 1) (hb0 : 0 < bytes)
    (v : Value) (xs ys : List Value) (m c : Nat) (hs : a.eval s = v) (hx : a.eval x = .slice (some ⟨W.heap.size, 0, none⟩) m c) (hm : m ≤ ys.length) (h1 : ∀ u ∈ ys, u.oneCell' = true)
    (HO : W.ownsRow base e 1 v xs.length xs) (HB : Below base w0 W) (hbase : base ≤ W.heap.size) (hl : (xs.length + m) * bytes ≤ 140737488355328)
    (h : ∀ v1 w1, w1.ownsRow base e 1 v1 (xs ++ ys.take m).length (xs ++ ys.take m) → Below base w0 w1 → wpList P ops Q rest (a.put o.dst v1) w1) :
    wpList P ops Q (o :: rest) a (W.alloc (.cells ys.toArray e)) := by
  obtain ⟨i0, hi, hzz⟩ := Option.map_eq_some_iff.1 hinfo
  simp only [Prod.mk.injEq] at hzz
  obtain ⟨hz0, hz1, hz2⟩ := hzz
  have hlen : xs.length + m ≤ 140737488355328 := Nat.le_trans (Nat.le_mul_of_pos_right _ hb0) hl
  have hnews := World.news_of_block (cs := ys.toArray) (t := e) (fr := (0, 0)) (heap_alloc_new W (.cells ys.toArray e))
  refine wpList_append_own_at (W.alloc (.cells ys.toArray e)) hgd s x t ho base e i0 z 1 bytes ht hi hz0 hz1 hz2 hz (by omega) v xs.length xs hs (HO.alloc _) ⟨W.heap.size, 0, none⟩ m c (ys.take m) hx (by rw [List.length_take]; omega)
    (fun j u hj => hnews j u (by
      rw [List.getElem?_take] at hj
      split at hj
      · simpa using hj
      · cases hj)) (fun u hu => h1 u (List.mem_of_mem_take hu)) (by simp only [maxLen]; omega) hl (by simp; omega) ?_
  intro v1 w1 hown hg _ hat
  refine h v1 w1 ?_ ((HB.alloc hbase _).grown hg (by simp; omega) (own_base HO))
  rw [List.length_append, List.length_take, Nat.min_eq_left hm]
  exact hown
/-- The same at a step of a region that draws its order. -/
theorem step_app_lits {w0 W : World} {K : Act → World → Prop} {E : Prop} (base : Nat) (hgd : o.guard = none) (s x : Operand) (t e : TypeId) (z : Value) (bytes : Nat)
    (ho : o.op = .call { callee := .builtin .append, args := #[s, x], argTypes := #[t, t] })
    (ht : P.underlying t = some (.slice e)) (hinfo : (P.info? e).map (fun i => (i.zero, i.size, i.bytes)) = some (some z, 1, bytes)) (hz : z.cells.size = 1) (hb0 : 0 < bytes)
    (v : Value) (xs ys : List Value) (m c : Nat) (hs : a.eval s = v) (hx : a.eval x = .slice (some ⟨W.heap.size, 0, none⟩) m c) (hm : m ≤ ys.length) (h1 : ∀ u ∈ ys, u.oneCell' = true)
    (HO : W.ownsRow base e 1 v xs.length xs) (HB : Below base w0 W) (hbase : base ≤ W.heap.size) (hl : (xs.length + m) * bytes ≤ 140737488355328)
    (h : ∀ v1 w1, w1.ownsRow base e 1 v1 (xs ++ ys.take m).length (xs ++ ys.take m) → Below base w0 w1 → K (a.put o.dst v1) w1) :
    if Region.wanted o (yielded ops a.tmps) = true then Oper.wp P o a (W.alloc (.cells ys.toArray e)) K Q else E := by
  have hw : Region.wanted o (yielded ops a.tmps) = true := by simp [Region.wanted, hgd]
  rw [if_pos hw]
  obtain ⟨i0, hi, hzz⟩ := Option.map_eq_some_iff.1 hinfo
  simp only [Prod.mk.injEq] at hzz
  obtain ⟨hz0, hz1, hz2⟩ := hzz
  have hlen : xs.length + m ≤ 140737488355328 := Nat.le_trans (Nat.le_mul_of_pos_right _ hb0) hl
  have hnews := World.news_of_block (cs := ys.toArray) (t := e) (fr := (0, 0)) (heap_alloc_new W (.cells ys.toArray e))
  obtain ⟨v1, w1, hr, hown, hg, _, hat⟩ := run_append_own_at (P := P) (W.alloc (.cells ys.toArray e)) base t o.type e i0 z 1 bytes ht hi hz0 hz1 hz2 hz (by omega) v xs.length xs (HO.alloc _) ⟨W.heap.size, 0, none⟩ m c (ys.take m) (by rw [List.length_take]; omega)
    (fun j u hj => hnews j u (by
      rw [List.getElem?_take] at hj
      split at hj
      · simpa using hj
      · cases hj)) (fun u hu => h1 u (List.mem_of_mem_take hu)) (by simp only [maxLen]; omega) hl (by simp; omega)
  unfold Oper.wp execOp
  simp only [ho, resolve, invoke, builtin, Sem.run_bind, Sem.run_pure, Result.andThen_ok, List.map_toArray, List.map_cons, List.map_nil, hs, hx, hr]
  refine h v1 w1 ?_ ((HB.alloc hbase _).grown hg (by simp; omega) (own_base HO))
  rw [List.length_append, List.length_take, Nat.min_eq_left hm]
  exact hown
end

theorem info_str : (Tryd.prog.info? 9).map (fun i => (i.zero, i.size, i.bytes)) = some (some (.string ⟨#[]⟩), 1, 16) := by kernel_rfl
def strs (l : List (List UInt8)) : List Value := l.map fun p => .string (bs p)
theorem strs_length (l : List (List UInt8)) : (strs l).length = l.length := by simp [strs]
theorem strs_append (l r : List (List UInt8)) : strs (l ++ r) = strs l ++ strs r := by simp [strs]
theorem itoa_le (n : Int) (h : -9223372036854775808 ≤ n ∧ n ≤ 9223372036854775807) : (Lib.itoa n).length ≤ 21 := Lib.itoa_length_le n h.1 h.2
theorem join_le : ∀ (l : List (List UInt8)) (B : Nat), (∀ p ∈ l, p.length ≤ B) → (Lib.join l [32]).length ≤ l.length * (B + 1)
  | [], B, _ => by simp [Lib.join_nil]
  | x :: r, B, h => by
    rw [Lib.join_cons, List.length_append, Lib.joinTail_length]
    have h1 : ∀ r : List (List UInt8), (∀ p ∈ r, p.length ≤ B) → Lib.lens r ≤ r.length * B := by
      intro r hr
      induction r with
      | nil => simp [Lib.lens]
      | cons y r ih =>
        have hy := hr y (by simp)
        have := ih (fun p hp => hr p (by simp [hp]))
        simp only [Lib.lens, List.map_cons, List.sum_cons, List.length_cons] at this ⊢
        rw [Nat.succ_mul]
        omega
    have h2 := h1 r (fun p hp => h p (by simp [hp]))
    have h3 := h x (by simp)
    have h4 : (r.length + 1) * (B + 1) = r.length * B + r.length + B + 1 := by rw [Nat.add_mul, Nat.mul_add]; omega
    simp only [List.length_cons, List.length_nil, Nat.zero_add, Nat.one_mul] at h4 ⊢
    rw [h4]
    omega
end Go.Proofs.YtmoplcchiadlpaaDoor.Jc
