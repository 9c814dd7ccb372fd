/- code.Put: an instruction's bytes, or what is wrong with it. Plain laws of chapter 18: how many bytes; branches. -/
import Derived.Test.YtmoplcchiadlpaaDoorKJcPut1
import Derived.Test.YtmoplcchiadlpaaDoorKMJc1
section
set_option linter.unusedVariables false
set_option linter.unusedSimpArgs false
namespace Go.Proofs.YtmoplcchiadlpaaDoor.Jc
open Go Go.RowKit Go.ChangeMaps Go.Proofs.YtmoplcchiadlpaaDoorW.PrintWords

def putS (m : M) : List UInt8 := match put m with | .ok s => s | .error _ => []
def putE (m : M) : Int := match put m with | .ok _ => 0 | .error k => k

theorem numPart_err {m : M} {k : Int} (h : numPart m = .error k) : k = 61 ∨ k = 32 := by
  unfold numPart at h
  split at h
  · cases h
  split at h
  · cases h
  split at h
  · cases h
  split at h
  · cases ht : tableB m.args with
    | ok s => rw [ht] at h; cases h
    | error e =>
      rw [ht] at h
      cases h
      exact .inl (tableB_err _ _ ht)
  split at h
  · exact .inl (fitsB_no h).2
  · exact .inr (fitsB_no h).2
theorem put_err {m : M} {k : Int} (h : put m = .error k) : k = 30 ∨ k = 31 ∨ k = 61 ∨ k = 32 := by
  unfold put at h
  split at h
  · cases h; exact .inl rfl
  split at h
  · cases h; exact .inr (.inl rfl)
  · cases hn : numPart m with
    | ok s => rw [hn] at h; cases h
    | error e =>
      rw [hn] at h
      cases h
      exact .inr (.inr (numPart_err hn))

theorem callPut1 (cap : Array Value) (w : World) : (callFunc 31 cap).run Tryd.prog w = .ok (.enter 31 cap) w := by
  kernel_rfl

set_option maxRecDepth 100000 in
set_option maxHeartbeats 4000000 in
theorem put_any (m : M) (hin : InR m) (a : Option Addr) (c : Nat) (w : World) (har : ArgsIn w m a c) (htab : Lib.TabIs Tryd.prog w "strings.asciiSpace" .u8 Lib.asciiSpaceTab) :
    Calls Tryd.prog 14 #[.agg (cellsM m a c)] w fun e w' => e = .returned (.tuple #[.string (bs (putS m)), .int .i64 (putE m)]) ∧ Below w.heap.size w w' := by
  have HT := Lib.hid htab
  have HIN := Lib.hid hin
  have HR := Lib.hid har
  clear har htab hin
  have hcall := Lib.hid callPut1
  go_enter Tryd.func14, Tryd.ntmps14
  go_wp2_with fail
  have hsz : ((w.alloc (.cells (cellsM m a c) 24)).alloc (.cells #[.string ⟨#[]⟩] 9)).heap.size = w.heap.size + 2 := by rw [alloc_size, alloc_size]
  have hi : ((w.alloc (.cells (cellsM m a c) 24)).alloc (.cells #[.string ⟨#[]⟩] 9)).heap[w.heap.size]? = some (.cells (cellsM m a c) 24 (0, 0)) :=
    alloc_old (alloc_at _ _)
  have ho : ((w.alloc (.cells (cellsM m a c) 24)).alloc (.cells #[.string ⟨#[]⟩] 9)).heap[w.heap.size + 1]? = some (.cells #[.string ⟨#[]⟩] 9 (0, 0)) := by
    have h := alloc_at (w.alloc (.cells (cellsM m a c) 24)) (.cells #[.string ⟨#[]⟩] 9)
    rwa [alloc_size] at h
  have hb : Below w.heap.size w ((w.alloc (.cells (cellsM m a c) 24)).alloc (.cells #[.string ⟨#[]⟩] 9)) := below_alloc (below_alloc (Below.refl _ _) _) _
  have hmet : Calls Tryd.prog 30 #[.func (.func 31) #[] #[.pointer (some ⟨w.heap.size, 0, none⟩), .pointer (some ⟨w.heap.size + 1, 0, none⟩)]]
      ((w.alloc (.cells (cellsM m a c) 24)).alloc (.cells #[.string ⟨#[]⟩] 9))
      fun e w' => ∃ s, e = .returned (.int .i64 (putE m)) ∧ Below w.heap.size w w' ∧ w'.heap[w.heap.size + 1]? = some (.cells #[.string s] 9 (0, 0)) ∧ (putE m = 0 → s = bs (putS m)) := by
    generalize (w.alloc (.cells (cellsM m a c) 24)).alloc (.cells #[.string ⟨#[]⟩] 9) = W at hsz hi ho hb ⊢
    refine caught_any _ _ W _ (fun w => callPut1 _ w) ?_
    refine (put1_any m HIN.out a c w.heap.size (w.heap.size + 1) ⟨#[]⟩ (W.alloc (.cells #[.int .i64 0] 27)) (alloc_old hi) (alloc_old ho) (by omega)
      (fun W2 h2 => HR.out.below (grown_low (below_alloc hb _) h2 (by omega))) (tabIs_alloc (tabIs_below HT.out hb) _)).mono ?_
    rintro e w' ⟨hg, hp⟩
    have hE : w'.heap[W.heap.size]? = some (.cells #[.int .i64 0] 27 (0, 0)) := by
      rw [hg.block _ (by rw [alloc_size]; omega) (by simp; omega)]
      exact alloc_at _ _
    have hB2 : Below w.heap.size w w' := grown_low (below_alloc hb _) hg (by omega)
    refine ⟨(cell_blk hE 0).trans rfl, froz_blk hE 0, ?_⟩
    unfold putE putS
    cases hpm : put m with
    | ok s =>
      rw [hpm] at hp
      exact .inl ⟨hp.1, bs s, rfl, below_set hB2 (by omega) _ _, set_other hp.2 (by omega) _ _, fun _ => rfl⟩
    | error k =>
      rw [hpm] at hp
      obtain ⟨h1, s, h2⟩ := hp
      refine .inr ⟨k, h1, s, rfl, below_alloc (below_set hB2 (by omega) _ _) _, alloc_old (set_other h2 (by omega) _ _), fun h0 => ?_⟩
      have h0 : k = 0 := h0
      rcases put_err hpm with h | h | h | h <;> omega
  refine hmet.mono ?_
  rintro e w1 ⟨s, rfl, hB, hO, hs⟩
  have o0 : w1.cell? ⟨w.heap.size + 1, 0, none⟩ = some (.string s) := (cell_blk hO 0).trans rfl
  have HB := Lib.hid hB
  have HS := Lib.hid hs
  clear hmet hi ho hb hsz hB hs hO
  cases hpm : put m with
  | ok t =>
    have he : putE m = 0 := by unfold putE; rw [hpm]
    have HE := Lib.hid he
    rw [HE.out]
    clear he hpm
    go_wp2_with fail
    go_ret2
    exact ⟨by rw [HE.out, HS.out HE.out]; rfl, HB.out⟩
  | error k =>
    have he : putE m = k := by unfold putE; rw [hpm]
    have hs2 : putS m = [] := by unfold putS; rw [hpm]
    have hk : (k == 0) = false := by
      rw [beq_eq_false_iff_ne]
      rcases put_err hpm with h | h | h | h <;> omega
    have HE := Lib.hid he
    have HS2 := Lib.hid hs2
    rw [HE.out]
    clear he hpm hs2
    go_wp2_with fail
    go_ret2
    exact ⟨by rw [HE.out, HS2.out]; rfl, HB.out⟩
end Go.Proofs.YtmoplcchiadlpaaDoor.Jc
end
section
set_option linter.unusedVariables false
set_option linter.unusedSimpArgs false
namespace Go.Proofs.YtmoplcchiadlpaaDoor.Jc
open Go

theorem pairs_length : ∀ l : List Int, (pairs l).length = (l.length + 1) / 2
  | [] => by simp [pairs]
  | [_] => by simp [pairs]
  | _ :: _ :: r => by
    simp only [pairs, List.length_cons, pairs_length r]
    omega
theorem put_ok {m : M} {s : List UInt8} (h : put m = .ok s) : shapeOk m = true ∧ (valsM m).all regOk = true ∧ ∃ t, numPart m = .ok t ∧ s = headB m :: (pairs (valsM m) ++ t) := by
  unfold put at h
  split at h
  · cases h
  rename_i h1
  split at h
  · cases h
  rename_i h2
  cases hn : numPart m with
  | error e => rw [hn] at h; cases h
  | ok t =>
    rw [hn] at h
    cases h
    rw [Bool.not_eq_false] at h2
    exact ⟨by simpa using h1, h2, t, rfl, rfl⟩
theorem numPart_length {m : M} {t : List UInt8} (h : numPart m = .ok t) : (t.length : Int) = if numF m.op = 0 then 0 else if numF m.op = 110 then 5 else if numF m.op = 116 then 1 + 3 * (m.args.length : Int) else ((widthF (numF m.op) (farOf m)).1 : Int) := by
  unfold numPart at h
  by_cases n0 : numF m.op = 0
  · rw [if_pos n0] at h ⊢
    cases h
    rfl
  rw [if_neg n0] at h ⊢
  by_cases n1 : numF m.op = 110
  · rw [if_pos n1] at h ⊢
    cases h
    simp [numB_length]
  rw [if_neg n1] at h ⊢
  by_cases n2 : numF m.op = 101
  · rw [if_pos n2] at h
    rw [n2]
    cases h
    rw [if_neg (by decide)]
    simp [numB_length, widthF]
  rw [if_neg n2] at h
  by_cases n3 : numF m.op = 116
  · rw [if_pos n3] at h ⊢
    cases ht : tableB m.args with
    | error e => rw [ht] at h; cases h
    | ok u =>
      rw [ht] at h
      cases h
      have := tableB_len _ _ ht
      simp [numB_length, this]
      try omega
  rw [if_neg n3] at h ⊢
  by_cases n4 : numF m.op = 98
  · rw [if_pos n4] at h
    rw [n4]
    have := fitsB_ok h
    rw [this.2.2, numB_length]
  rw [if_neg n4] at h
  have := fitsB_ok h
  rw [this.2.2, numB_length]
/-- P18.3: what was put is as long as its size says. -/
theorem put_size {m : M} {s : List UInt8} (h : put m = .ok s) : (s.length : Int) = sizeM m := by
  obtain ⟨h1, _, t, h3, rfl⟩ := put_ok h
  unfold sizeM
  rw [if_neg (by rw [h1]; simp), ← numPart_length h3]
  simp only [List.length_cons, List.length_append, pairs_length, valsM_length]
  omega

/-- The nine branches. -/
theorem branch_op {op : Int} (h : 40 ≤ op ∧ op ≤ 48) : known op = true ∧ numF op = 98 ∧ op ≠ 28 ∧ op ≠ 29 ∧ (∀ x ∈ regsF op, x = 65 ∨ x = 66) := by
  have : op = 40 ∨ op = 41 ∨ op = 42 ∨ op = 43 ∨ op = 44 ∨ op = 45 ∨ op = 46 ∨ op = 47 ∨ op = 48 := by omega
  rcases this with rfl | rfl | rfl | rfl | rfl | rfl | rfl | rfl | rfl <;> decide +kernel
theorem branch_shape {m : M} (h : 40 ≤ m.op ∧ m.op ≤ 48) (he : m.e = 0 ∨ m.e = 1) : shapeOk m = true := by
  obtain ⟨h1, h2, h3, h4, _⟩ := branch_op h
  unfold shapeOk
  rw [h1, if_neg h3, if_neg h4, if_pos (.inl h2)]
  rcases he with he | he <;> simp [he]
theorem branch_regs {m : M} (h : 40 ≤ m.op ∧ m.op ≤ 48) (ha : 0 ≤ m.a ∧ m.a < 16) (hb : 0 ≤ m.b ∧ m.b < 16) : (valsM m).all regOk = true := by
  obtain ⟨_, _, _, _, h5⟩ := branch_op h
  rw [List.all_eq_true]
  intro x hx
  unfold valsM at hx
  obtain ⟨y, hy, rfl⟩ := List.mem_map.1 hx
  rw [regOk_iff]
  rcases h5 y hy with rfl | rfl
  · exact ha
  · exact hb
theorem branch_num {m : M} (h : 40 ≤ m.op ∧ m.op ≤ 48) : numPart m = fitsB m.imm 98 (farOf m) 61 := by
  obtain ⟨_, h2, _, _, _⟩ := branch_op h
  unfold numPart
  rw [if_neg (by rw [h2]; decide), if_neg (by rw [h2]; decide), if_neg (by rw [h2]; decide), if_neg (by rw [h2]; decide), if_pos h2]
theorem branch_put {m : M} (h : 40 ≤ m.op ∧ m.op ≤ 48) (he : m.e = 0 ∨ m.e = 1) (ha : 0 ≤ m.a ∧ m.a < 16) (hb : 0 ≤ m.b ∧ m.b < 16) :
    put m = match fitsB m.imm 98 (farOf m) 61 with | .ok s => .ok (headB m :: (pairs (valsM m) ++ s)) | .error e => .error e := by
  rw [put_full m (branch_shape h he) (branch_regs h ha hb), branch_num h]
  cases fitsB m.imm 98 (farOf m) 61 <;> rfl
theorem branch_near {m : M} (h : 40 ≤ m.op ∧ m.op ≤ 48) (he : m.e = 0) (ha : 0 ≤ m.a ∧ m.a < 16) (hb : 0 ≤ m.b ∧ m.b < 16) :
    putE m = if -128 ≤ m.imm ∧ m.imm ≤ 127 then 0 else 61 := by
  have hf : farOf m = false := by unfold farOf; rw [he]; simp
  unfold putE
  rw [branch_put h (.inl he) ha hb, hf]
  unfold fitsB
  have hw : widthF 98 false = (1, -128, 127) := by unfold widthF; simp
  rw [hw]
  by_cases hc : -128 ≤ m.imm ∧ m.imm ≤ 127
  · rw [if_pos hc, if_pos hc]
  · rw [if_neg hc, if_neg hc]
theorem branch_far {m : M} (h : 40 ≤ m.op ∧ m.op ≤ 48) (he : m.e = 1) (ha : 0 ≤ m.a ∧ m.a < 16) (hb : 0 ≤ m.b ∧ m.b < 16) :
    putE m = if -8388608 ≤ m.imm ∧ m.imm ≤ 8388607 then 0 else 61 := by
  have hf : farOf m = true := by unfold farOf; rw [he, (branch_op h).2.1]; rfl
  unfold putE
  rw [branch_put h (.inr he) ha hb, hf]
  unfold fitsB
  have hw : widthF 98 true = (3, -8388608, 8388607) := by unfold widthF; simp
  rw [hw]
  by_cases hc : -8388608 ≤ m.imm ∧ m.imm ≤ 8388607
  · rw [if_pos hc, if_pos hc]
  · rw [if_neg hc, if_neg hc]
theorem putE_ok {m : M} (h : putE m = 0) : ((putS m).length : Int) = sizeM m := by
  unfold putE at h
  unfold putS
  cases hp : put m with
  | ok s => exact put_size hp
  | error k =>
    rw [hp] at h
    rcases put_err hp with h1 | h1 | h1 | h1 <;> (simp at h; omega)
theorem branch_size (op a b imm : Int) (h : 40 ≤ op ∧ op ≤ 48) : sizeM ⟨op, 0, 1, a, b, 0, imm, []⟩ = sizeM ⟨op, 0, 0, a, b, 0, imm, []⟩ + 2 ∧ 0 ≤ sizeM ⟨op, 0, 0, a, b, 0, imm, []⟩ ∧ sizeM ⟨op, 0, 0, a, b, 0, imm, []⟩ ≤ 100 := by
  have h1 := branch_shape (m := ⟨op, 0, 1, a, b, 0, imm, []⟩) h (.inr rfl)
  have h0 := branch_shape (m := ⟨op, 0, 0, a, b, 0, imm, []⟩) h (.inl rfl)
  have hn := (branch_op h).2.1
  have hr := regs_short op
  have f1 : farOf ⟨op, 0, 1, a, b, 0, imm, []⟩ = true := by unfold farOf; rw [hn]; rfl
  have f0 : farOf ⟨op, 0, 0, a, b, 0, imm, []⟩ = false := by unfold farOf; simp
  have w1 : widthF 98 true = (3, -8388608, 8388607) := by unfold widthF; simp
  have w0 : widthF 98 false = (1, -128, 127) := by unfold widthF; simp
  have s1 : sizeM ⟨op, 0, 1, a, b, 0, imm, []⟩ = 1 + ((((regsF op).length + 1) / 2 : Nat) : Int) + 3 := by
    unfold sizeM
    rw [if_neg (by rw [h1]; simp), f1]
    simp [hn, w1]
  have s0 : sizeM ⟨op, 0, 0, a, b, 0, imm, []⟩ = 1 + ((((regsF op).length + 1) / 2 : Nat) : Int) + 1 := by
    unfold sizeM
    rw [if_neg (by rw [h0]; simp), f0]
    simp [hn, w0]
  rw [s1, s0]
  generalize regsF op = l at hr
  omega
end Go.Proofs.YtmoplcchiadlpaaDoor.Jc
end
