/- code.Get: which instruction bytes begin with, or what is wrong. jacquardlaw18.few; an instruction in a block of its own: its cells; stored whole; and bounds that numbers of Go keep. Plain laws of chapter 18: of fewer bytes nothing is got. The references' smaller functions by plain words: fields, has an Op a field, are two instructions the same. Plain laws of chapter 18: what was put is got again; another register; what the functions hand back. -/
import Derived.Test.YtmoplcchiadlpaaDoorKJcGet1
import Derived.Test.YtmoplcchiadlpaaDoorKMJc1
import Derived.Test.YtmoplcchiadlpaaDoorKSx3
import Derived.Test.YtmoplcchiadlpaaDoorKMJcPut
section
set_option linter.unusedVariables false
set_option linter.unusedSimpArgs false
namespace Go.Proofs.YtmoplcchiadlpaaDoor.Jc
open Go Go.RowKit Go.ChangeMaps Go.Proofs.YtmoplcchiadlpaaDoorW.PrintWords

def getI (s : List UInt8) : M := match getM s with | .ok r => r.1 | .error _ => zeroM
def getN (s : List UInt8) : Int := match getM s with | .ok r => (r.2 : Int) | .error _ => 0
def getE (s : List UInt8) : Int := match getM s with | .ok _ => 0 | .error k => k

theorem getRegs_err (s : List UInt8) {k : Int} : ∀ (l : List UInt8) (m : M) (p : Nat), getRegs s l m p = .error k → k = 62
  | [], m, p, h => by cases h
  | [x], m, p, h => by
    unfold getRegs at h
    split at h
    · cases h
    · cases h; rfl
  | x :: y :: r, m, p, h => by
    unfold getRegs at h
    split at h
    · exact getRegs_err s r _ _ h
    · cases h; rfl
theorem getNum_err {s : List UInt8} {m : M} {p : Nat} {far : Bool} {k : Int} (h : getNum s m p far = .error k) : k = 62 ∨ k = 60 := by
  unfold getNum at h
  repeat' split at h
  all_goals first | (cases h; done) | (cases h; exact .inl rfl) | (cases h; exact .inr rfl)
theorem getM_err {s : List UInt8} {k : Int} (h : getM s = .error k) : k = 62 ∨ k = 60 := by
  unfold getM at h
  cases hr : getRaw s with
  | error e =>
    rw [hr] at h
    cases h
    unfold getRaw at hr
    split at hr
    · cases hr; exact .inl rfl
    split at hr
    · cases hr; exact .inr rfl
    cases hq : getRegs s (regsF (opB s)) (startM s) 1 with
    | error e2 =>
      rw [hq] at hr
      cases hr
      exact .inl (getRegs_err s _ _ _ hq)
    | ok q =>
      rw [hq] at hr
      simp only [] at hr
      cases hn : getNum s q.1 q.2 (farB s) with
      | error e3 =>
        rw [hn] at hr
        cases hr
        exact getNum_err hn
      | ok r => rw [hn] at hr; cases hr
  | ok q =>
    rw [hr] at h
    simp only [] at h
    cases hp : put q.1 with
    | error e => rw [hp] at h; cases h; exact .inr rfl
    | ok t =>
      rw [hp] at h
      simp only [] at h
      split at h
      · cases h
      · cases h; exact .inr rfl

theorem kept2_low {w0 w w1 : World} {b1 b2 : Nat} (h0 : Below w0.heap.size w0 w) (h : Kept2 w w1 b1 b2) (h1 : w0.heap.size ≤ b1) (h2 : w0.heap.size ≤ b2) : Below w0.heap.size w0 w1 :=
  h0.trans ⟨h.os, h.tape, h.output, h.size, fun i hi => by
    have := h0.size
    exact h.block i (by omega) (by omega) (by omega)⟩
theorem addr_add_block (a : Addr) (j : Nat) : (a.add j).block = a.block := by
  unfold Addr.add
  split <;> rfl
theorem ArgsIn.set {w : World} {m : M} {a : Option Addr} {c b : Nat} (h : ArgsIn w m a c) (hne : ∀ ad, a = some ad → ad.block ≠ b) (i : Nat) (v : Value) : ArgsIn (w.setCell ⟨b, i, none⟩ v) m a c := by
  refine ⟨⟨h.reads.1, h.reads.2.1, fun hn => ?_⟩, h.cap⟩
  obtain ⟨ad, ha, hc⟩ := h.reads.2.2 hn
  refine ⟨ad, ha, fun j hj => ?_⟩
  rw [← hc j hj]
  apply World.cell?_of_block
  rw [addr_add_block]
  have := hne ad ha
  simp [World.setCell, Array.getElem?_modify, Ne.symm this]
theorem ArgsIn.drew {w : World} {m : M} {a : Option Addr} {c : Nat} (h : ArgsIn w m a c) : ArgsIn w.drew m a c := ⟨h.reads, h.cap⟩
theorem callGet1 (cap : Array Value) (w : World) : (callFunc 58 cap).run Tryd.prog w = .ok (.enter 58 cap) w := by
  kernel_rfl

/-- What Get hands back. -/
def GotBack (s : List UInt8) (w : World) (e : Ending) (w' : World) : Prop :=
  ∃ a c, e = .returned (.tuple #[.agg (cellsM (getI s) a c), .int .i64 (getN s), .int .i64 (getE s)]) ∧ Below w.heap.size w w' ∧ ArgsIn w' (getI s) a c ∧ ∀ ad, a = some ad → w.heap.size ≤ ad.block

set_option maxRecDepth 100000 in
set_option maxHeartbeats 1000000 in
theorem get_any (s : List UInt8) (hlen : s.length ≤ 1000000000) (w : World) (htab : Lib.TabIs Tryd.prog w "strings.asciiSpace" .u8 Lib.asciiSpaceTab) :
    Calls Tryd.prog 24 #[.string (bs s)] w (GotBack s w) := by
  have HT := Lib.hid htab
  clear htab
  have hcall := Lib.hid callGet1
  go_enter Tryd.func24, Tryd.ntmps24
  go_wp2_with fail
  have hz1 := alloc_size w (.cells #[.string (bs s)] 9)
  have hp1 := alloc_at w (.cells #[.string (bs s)] 9)
  have hb1 := below_alloc (Below.refl w.heap.size w) (.cells #[.string (bs s)] 9)
  generalize w.alloc (.cells #[.string (bs s)] 9) = V1 at hz1 hp1 hb1 ⊢
  have hz2 := alloc_size V1 (.cells #[.int .i64 0, .int .i64 0, .int .i64 0, .int .i64 0, .int .i64 0, .int .i64 0, .int .i32 0, .slice none 0 0] 24)
  have hr2 := alloc_at V1 (.cells #[.int .i64 0, .int .i64 0, .int .i64 0, .int .i64 0, .int .i64 0, .int .i64 0, .int .i32 0, .slice none 0 0] 24)
  have hp2 := alloc_old (o := .cells #[.int .i64 0, .int .i64 0, .int .i64 0, .int .i64 0, .int .i64 0, .int .i64 0, .int .i32 0, .slice none 0 0] 24) hp1
  have hb2 := below_alloc hb1 (.cells #[.int .i64 0, .int .i64 0, .int .i64 0, .int .i64 0, .int .i64 0, .int .i64 0, .int .i32 0, .slice none 0 0] 24)
  generalize V1.alloc (.cells #[.int .i64 0, .int .i64 0, .int .i64 0, .int .i64 0, .int .i64 0, .int .i64 0, .int .i32 0, .slice none 0 0] 24) = V2 at hz2 hr2 hp2 hb2 ⊢
  have hz3 := alloc_size V2 (.cells #[.int .i64 0, .int .i64 0, .int .i64 0, .int .i64 0, .int .i64 0, .int .i64 0, .int .i32 0, .slice none 0 0] 24)
  have hi3 := alloc_at V2 (.cells #[.int .i64 0, .int .i64 0, .int .i64 0, .int .i64 0, .int .i64 0, .int .i64 0, .int .i32 0, .slice none 0 0] 24)
  have hr3 := alloc_old (o := .cells #[.int .i64 0, .int .i64 0, .int .i64 0, .int .i64 0, .int .i64 0, .int .i64 0, .int .i32 0, .slice none 0 0] 24) hr2
  have hp3 := alloc_old (o := .cells #[.int .i64 0, .int .i64 0, .int .i64 0, .int .i64 0, .int .i64 0, .int .i64 0, .int .i32 0, .slice none 0 0] 24) hp2
  have hb3 := below_alloc hb2 (.cells #[.int .i64 0, .int .i64 0, .int .i64 0, .int .i64 0, .int .i64 0, .int .i64 0, .int .i32 0, .slice none 0 0] 24)
  generalize V2.alloc (.cells #[.int .i64 0, .int .i64 0, .int .i64 0, .int .i64 0, .int .i64 0, .int .i64 0, .int .i32 0, .slice none 0 0] 24) = V3 at hz3 hi3 hr3 hp3 hb3 ⊢
  have hz4 := alloc_size V3 (.cells #[.int .i64 0] 3)
  have hq4 := alloc_at V3 (.cells #[.int .i64 0] 3)
  have hi4 := alloc_old (o := .cells #[.int .i64 0] 3) hi3
  have hr4 := alloc_old (o := .cells #[.int .i64 0] 3) hr3
  have hp4 := alloc_old (o := .cells #[.int .i64 0] 3) hp3
  have hb4 := below_alloc hb3 (.cells #[.int .i64 0] 3)
  generalize V3.alloc (.cells #[.int .i64 0] 3) = V4 at hz4 hq4 hi4 hr4 hp4 hb4 ⊢
  rw [hz1] at hr4 hz2
  rw [hz2] at hi4 hz3
  rw [hz3] at hq4 hz4
  have HB4 := Lib.hid hb4
  have HZ4 := Lib.hid hz4
  have HP4 := Lib.hid hp4
  have HR4 := Lib.hid hr4
  have HI4 := Lib.hid hi4
  have HQ4 := Lib.hid hq4
  clear hz1 hz2 hz3 hz4 hp1 hp2 hp3 hp4 hb1 hb2 hb3 hb4 hr2 hr3 hr4 hi3 hi4 hq4
  have hmet : Calls Tryd.prog 30 #[.func (.func 58) #[] #[.pointer (some ⟨w.heap.size, 0, none⟩), .pointer (some ⟨w.heap.size + 1 + 1 + 1, 0, none⟩), .pointer (some ⟨w.heap.size + 1 + 1, 0, none⟩)]] V4
      fun e w' => e = .returned (.int .i64 (getE s)) ∧ Below w.heap.size w w' ∧ w'.heap[w.heap.size + 1]? = some (.cells (cellsM zeroM none 0) 24 (0, 0)) ∧
        (getE s = 0 → ∃ a c, w'.heap[w.heap.size + 1 + 1]? = some (.cells (cellsM (getI s) a c) 24 (0, 0)) ∧ w'.heap[w.heap.size + 1 + 1 + 1]? = some (.cells #[.int .i64 (getN s)] 3 (0, 0)) ∧ ArgsIn w' (getI s) a c ∧ ∀ ad, a = some ad → w.heap.size + 4 ≤ ad.block) := by
    have hz := HZ4.out
    refine caught_any _ _ V4 _ (fun w => callGet1 _ w) ?_
    have hb5 := below_alloc HB4.out (.cells #[.int .i64 0] 27)
    refine (get1_any s hlen w.heap.size (w.heap.size + 1 + 1 + 1) (w.heap.size + 1 + 1) (by omega) (by omega) (by omega) (V4.alloc (.cells #[.int .i64 0] 27)) (alloc_old HP4.out) (alloc_old HQ4.out) (alloc_old HI4.out)
      (fun W hW => tabIs_below HT.out (kept2_low hb5 hW (by omega) (by omega)))).mono ?_
    rintro e w' ⟨hk, hp⟩
    have hz5 := alloc_size V4 (.cells #[.int .i64 0] 27)
    have hE : w'.heap[V4.heap.size]? = some (.cells #[.int .i64 0] 27 (0, 0)) := hk.at (alloc_at _ _) (by omega) (by omega)
    have hR : w'.heap[w.heap.size + 1]? = some (.cells (cellsM zeroM none 0) 24 (0, 0)) := hk.at (alloc_old HR4.out) (by omega) (by omega)
    have hB2 : Below w.heap.size w w' := kept2_low hb5 hk (by omega) (by omega)
    refine ⟨(cell_blk hE 0).trans rfl, froz_blk hE 0, ?_⟩
    unfold getE getI getN
    cases hg : getM s with
    | ok r =>
      rw [hg] at hp
      obtain ⟨he, ⟨a, c, h1, h2, h3⟩, h4⟩ := hp
      refine .inl ⟨he, rfl, below_set hB2 (by omega) _ _, set_other hR (by omega) _ _, fun _ => ⟨a, c, set_other h1 (by omega) _ _, set_other h4 (by omega) _ _, h2.set (fun ad ha => by have := h3 ad ha; omega) _ _, fun ad ha => by have := h3 ad ha; omega⟩⟩
    | error k =>
      rw [hg] at hp
      refine .inr ⟨k, hp, rfl, below_alloc (below_set hB2 (by omega) _ _) _, alloc_old (set_other hR (by omega) _ _), fun h0 => ?_⟩
      have h0 : k = 0 := h0
      rcases getM_err hg with h | h <;> omega
  refine hmet.mono ?_
  rintro e w1 ⟨rfl, hB, hR, hs⟩
  have HB := Lib.hid hB
  have HR := Lib.hid hR
  have HS := Lib.hid hs
  have hR2 := hR
  unfold cellsM at hR2
  have hz := HB.out.size
  have zr : ∀ i, w1.frozen? ⟨w.heap.size + 1, i, none⟩ = false := fun i => froz_blk hR2 i
  have r0 := cell_blk hR2 0
  have r1 := cell_blk hR2 1
  have r2 := cell_blk hR2 2
  have r3 := cell_blk hR2 3
  have r4 := cell_blk hR2 4
  have r5 := cell_blk hR2 5
  have r6 := cell_blk hR2 6
  have r7 := cell_blk hR2 7
  clear hmet hB hR hs hR2 HP4 HQ4 HI4 HR4 HB4 HZ4
  cases hg : getM s with
  | error k =>
    have he : getE s = k := by unfold getE; rw [hg]
    have hI : getI s = zeroM := by unfold getI; rw [hg]
    have hN : getN s = 0 := by unfold getN; rw [hg]
    have hk : (k == 0) = false := by
      rw [beq_eq_false_iff_ne]
      rcases getM_err hg with h | h <;> omega
    have HE := Lib.hid he
    have HI := Lib.hid hI
    have HN := Lib.hid hN
    rw [HE.out]
    clear he hg hI hN
    go_wp2_with fail
    have hlt := blk_lt' HR.out
    refine bodyPost_ret (v := .tuple #[.agg #[.int .i64 0, .int .i64 0, .int .i64 0, .int .i64 0, .int .i64 0, .int .i64 0, .int .i32 0, .slice none 0 0], .int .i64 0, .int .i64 k]) (by simp [results, Tryd.results24, go_sem, r0, r1, r2, r3, r4, r5, r6, r7]) rfl ?_
    refine ⟨none, 0, ?_, ?_, args_none (by rw [HI.out]; rfl) _, fun ad h => by cases h⟩
    · rw [HI.out, HN.out, HE.out]; rfl
    · exact below_set (below_set (below_set (below_set (below_set (below_set (below_set (below_set HB.out (by omega) _ _) (by omega) _ _) (by omega) _ _) (by omega) _ _) (by omega) _ _) (by omega) _ _) (by omega) _ _) (by omega) _ _
  | ok r =>
    have he : getE s = 0 := by unfold getE; rw [hg]
    have HE := Lib.hid he
    rw [HE.out]
    obtain ⟨a, c, hi, hq, har, hfr⟩ := HS.out he
    unfold cellsM at hi
    have d0 := cell_blk hi 0
    have d1 := cell_blk hi 1
    have d2 := cell_blk hi 2
    have d3 := cell_blk hi 3
    have d4 := cell_blk hi 4
    have d5 := cell_blk hi 5
    have d6 := cell_blk hi 6
    have d7 := cell_blk hi 7
    have q0 := cell_blk hq 0
    have HI := Lib.hid hi
    have HA := Lib.hid har
    have HF := Lib.hid hfr
    clear he hg hi hq har hfr
    go_wp2_with fail
    go_region
    all_goals
      go_wp2_with fail
      refine bodyPost_ret (v := .tuple #[.agg #[.int .i64 (getI s).op, .int .i64 (getI s).d, .int .i64 (getI s).e, .int .i64 (getI s).a, .int .i64 (getI s).b, .int .i64 (getI s).c, .int .i32 (getI s).imm, .slice a (getI s).args.length c], .int .i64 (getN s), .int .i64 0]) (by simp [results, Tryd.results24, go_sem, r0, r1, r2, r3, r4, r5, r6, r7]) rfl ?_
      have hne : ∀ ad, a = some ad → ad.block ≠ w.heap.size + 1 := fun ad ha => by have := HF.out ad ha; omega
      refine ⟨a, c, ?_, ?_, ?_, fun ad ha => by have := HF.out ad ha; omega⟩
      · rw [HE.out]; rfl
      · exact below_drewR (below_set (below_set (below_set (below_set (below_set (below_set (below_set (below_set HB.out (by omega) _ _) (by omega) _ _) (by omega) _ _) (by omega) _ _) (by omega) _ _) (by omega) _ _) (by omega) _ _) (by omega) _ _)
      · refine ArgsIn.drew ?_
        refine ArgsIn.set ?_ hne _ _
        refine ArgsIn.set ?_ hne _ _
        refine ArgsIn.set ?_ hne _ _
        refine ArgsIn.set ?_ hne _ _
        refine ArgsIn.set ?_ hne _ _
        refine ArgsIn.set ?_ hne _ _
        refine ArgsIn.set ?_ hne _ _
        refine ArgsIn.set ?_ hne _ _
        exact HA.out
end Go.Proofs.YtmoplcchiadlpaaDoor.Jc
end
section
set_option linter.unusedVariables false
set_option linter.unusedSimpArgs false
namespace Go.Proofs.YtmoplcchiadlpaaDoor.Jc
section
open Go Go.RowKit Go.ChangeMaps Go.Proofs.YtmoplcchiadlpaaDoorW.PrintWords

def fewM (m : M) : M := { m with args := m.args.take 70 }
/-- An instruction that is handed back, its Args in blocks of the call's own. -/
def HandsM (m : M) (w : World) (e : Ending) (w' : World) : Prop :=
  ∃ a c, e = .returned (.agg (cellsM m a c)) ∧ Below w.heap.size w w' ∧ ArgsIn w' m a c ∧ ∀ ad, a = some ad → w.heap.size ≤ ad.block

section
variable {P : Program} {ops : Array Oper} {o : Oper} {a : Act} {Q : Exit → Act → World → Prop}
/-- append(v, ys...) at a step of a region that draws its order: ys a slice that is read. -/
theorem step_app_row {w0 W : World} {K : Act → World → Prop} {E : Prop} (base : Nat) (hgd : o.guard = none) (s x : Operand) (t e : TypeId) (k : IntKind) (bytes : Nat)
    (ho : o.op = .call { callee := .builtin .append, args := #[s, x], argTypes := #[t, t] })
    (ht : P.underlying t = some (.slice e)) (hinfo : (P.info? e).map (fun i => (i.zero, i.size, i.bytes)) = some (some (.int k 0), 1, bytes)) (hb0 : 0 < bytes)
    (v : Value) (xs ys : List Int) (A : Option Addr) (m c : Nat) (hs : a.eval s = v) (hx : a.eval x = .slice A m c)
    (HO : W.ownsRow base e 1 v xs.length (nums k xs)) (HR : ReadsInt W k A m ys) (HB : Below base w0 W) (hbase : base ≤ W.heap.size) (hl : (xs.length + m) * bytes ≤ 140737488355328)
    (h : ∀ v1 w1, w1.ownsRow base e 1 v1 (xs ++ ys).length (nums k (xs ++ ys)) → Below base w0 w1 → K (a.put o.dst v1) w1) :
    if Region.wanted o (yielded ops a.tmps) = true then Oper.wp P o a W K Q else E := by
  have hw : Region.wanted o (yielded ops a.tmps) = true := by simp [Region.wanted, hgd]
  rw [if_pos hw]
  obtain ⟨i0, hi, hzz⟩ := Option.map_eq_some_iff.1 hinfo
  simp only [Prod.mk.injEq] at hzz
  obtain ⟨hz0, hz1, hz2⟩ := hzz
  have hm : ys.length = m := HR.1
  have hlen : xs.length + m ≤ 140737488355328 := Nat.le_trans (Nat.le_mul_of_pos_right _ hb0) hl
  have hrun : ∃ v1 w1, (Builtin.append_ #[t, t] o.type #[v, .slice A m c]).run P W = .ok v1 w1 ∧ w1.ownsRow base e 1 v1 (xs ++ ys).length (nums k (xs ++ ys)) ∧ W.grownBy w1 v.ownBlock ∧ (v1.ownBlock = v.ownBlock ∨ v1.ownBlock = some W.heap.size) := by
    rcases A with _ | ad
    · have h0 : m = 0 := by
        rcases Nat.eq_zero_or_pos m with h0 | h0
        · exact h0
        · obtain ⟨ad, h, _⟩ := HR.2.2 h0
          cases h
      subst h0
      obtain rfl : ys = [] := List.eq_nil_of_length_eq_zero hm
      refine ⟨v, W, ?_, by simpa using HO, World.grownBy.refl W _, .inl rfl⟩
      rcases HO.2 with ⟨rfl, hn⟩ | ⟨g, cap, cur, rfl, _, _, hnc, _⟩
      · simp [Builtin.append_, run_underlying ht, sizeOf, typeInfo, hi, Builtin.lenOf, Builtin.firstCells]
      · simp [Builtin.append_, run_underlying ht, sizeOf, typeInfo, hi, Builtin.lenOf, Builtin.firstCells, hnc, storeCells]
    · have hcells : ∀ j u, (nums k ys)[j]? = some u → W.cell? (ad.add j) = some u := by
        intro j u hu
        have hj : j < ys.length := by
          rcases Nat.lt_or_ge j ys.length with h | h
          · exact h
          · simp [nums, List.getElem?_eq_none h] at hu
        obtain ⟨ad', h', hc⟩ := HR.2.2 (by omega)
        injection h' with h'
        subst h'
        have := hc j (by omega)
        simp [nums, List.getElem?_eq_getElem hj] at hu
        subst hu
        rw [this]
        simp [List.getD_eq_getElem?_getD, List.getElem?_eq_getElem hj]
      obtain ⟨v1, w1, hr, h2, h3, _, h5⟩ := run_append_own_at (P := P) W base t o.type e i0 (.int k 0) 1 bytes ht hi hz0 hz1 hz2 rfl (by omega) v xs.length (nums k xs) HO ad m c (nums k ys) (by simp [nums, hm]) hcells
        (by intro u hu; simp only [nums, List.mem_map] at hu; obtain ⟨q, _, rfl⟩ := hu; rfl) (by simp only [maxLen]; omega) hl hbase
      exact ⟨v1, w1, hr, by simpa [nums, hm] using h2, h3, h5⟩
  obtain ⟨v1, w1, hr, hown, hg, hat⟩ := hrun
  unfold Oper.wp execOp
  simp only [ho, resolve, invoke, builtin, Sem.run_bind, Sem.run_pure, Result.andThen_ok, List.map_toArray, List.map_cons, List.map_nil, hs, hx, hr]
  exact h v1 w1 hown (HB.grown hg hbase (own_base HO))
end
theorem own_args {w : World} {base n : Nat} {v : Value} {xs : List Int} (h : w.ownsRow base 3 1 v n (nums .i64 xs)) : ∃ A c, v = .slice A n c ∧ ReadsInt w .i64 A n xs ∧ n ≤ c ∧ ∀ ad, A = some ad → base ≤ ad.block := by
  obtain ⟨A, c, rfl, hr⟩ := own_reads h
  refine ⟨A, c, rfl, hr, ?_, fun ad ha => ?_⟩
  · rcases h.2 with ⟨h0, h1⟩ | ⟨g, cap, cur, hv, _, _, hc, _⟩
    · omega
    · cases hv
      exact hc
  · subst ha
    exact own_base h ad.block rfl

set_option maxRecDepth 100000 in
set_option maxHeartbeats 2000000 in
theorem few_any (m : M) (a : Option Addr) (c : Nat) (w : World) (har : ArgsIn w m a c) : Calls Tryd.prog 13 #[.agg (cellsM m a c)] w (HandsM (fewM m) w) := by
  have hcap := har.cap
  have hmax := har.reads.2.1
  have hm0 : 0 ≤ min (m.args.length : Int) 70 := by omega
  have hmc : min (m.args.length : Int) 70 ≤ c := by omega
  have hmn : (min (m.args.length : Int) 70).toNat = (m.args.take 70).length := by rw [List.length_take]; omega
  have hrd : ReadsInt w .i64 a (min (m.args.length : Int) 70).toNat (m.args.take 70) := by
    have h := har.reads.take_ (min m.args.length 70) (by omega)
    have e1 : m.args.take (min m.args.length 70) = m.args.take 70 := by
      by_cases h70 : m.args.length ≤ 70
      · rw [List.take_of_length_le (show m.args.length ≤ 70 from h70), List.take_of_length_le (by omega)]
      · rw [show min m.args.length 70 = 70 by omega]
    have e2 : (min (m.args.length : Int) 70).toNat = min m.args.length 70 := by omega
    rw [e1] at h
    rw [e2]
    exact h
  have HRD := Lib.hid hrd
  have HMN := Lib.hid hmn
  clear har hmn hrd
  unfold cellsM
  go_enter Tryd.func13, Tryd.ntmps13
  have hO := World.ownsRow_made (base := w.heap.size + 1 + 1) (e := 3) (size := 1) ((w.alloc (.cells #[.int .i64 m.op, .int .i64 m.d, .int .i64 m.e, .int .i64 m.a, .int .i64 m.b, .int .i64 m.c, .int .i32 m.imm, .slice a m.args.length c] 24)).alloc (.cells #[.int .i64 0, .int .i64 0, .int .i64 0, .int .i64 0, .int .i64 0, .int .i64 0, .int .i32 0, .slice none 0 0] 24)) #[] 0 (by simp) (by decide) (by simp)
  have hb3 := below_alloc (below_alloc (below_alloc (Below.refl w.heap.size w) (.cells #[.int .i64 m.op, .int .i64 m.d, .int .i64 m.e, .int .i64 m.a, .int .i64 m.b, .int .i64 m.c, .int .i32 m.imm, .slice a m.args.length c] 24)) (.cells #[.int .i64 0, .int .i64 0, .int .i64 0, .int .i64 0, .int .i64 0, .int .i64 0, .int .i32 0, .slice none 0 0] 24)) (.cells #[] 3)
  have hi3 := alloc_old (o := .cells #[] 3) (alloc_old (o := .cells #[.int .i64 0, .int .i64 0, .int .i64 0, .int .i64 0, .int .i64 0, .int .i64 0, .int .i32 0, .slice none 0 0] 24) (alloc_at w (.cells #[.int .i64 m.op, .int .i64 m.d, .int .i64 m.e, .int .i64 m.a, .int .i64 m.b, .int .i64 m.c, .int .i32 m.imm, .slice a m.args.length c] 24)))
  have hr3 := alloc_old (o := .cells #[] 3) (alloc_at (w.alloc (.cells #[.int .i64 m.op, .int .i64 m.d, .int .i64 m.e, .int .i64 m.a, .int .i64 m.b, .int .i64 m.c, .int .i32 m.imm, .slice a m.args.length c] 24)) (.cells #[.int .i64 0, .int .i64 0, .int .i64 0, .int .i64 0, .int .i64 0, .int .i64 0, .int .i32 0, .slice none 0 0] 24))
  have hz3 : (((w.alloc (.cells #[.int .i64 m.op, .int .i64 m.d, .int .i64 m.e, .int .i64 m.a, .int .i64 m.b, .int .i64 m.c, .int .i32 m.imm, .slice a m.args.length c] 24)).alloc (.cells #[.int .i64 0, .int .i64 0, .int .i64 0, .int .i64 0, .int .i64 0, .int .i64 0, .int .i32 0, .slice none 0 0] 24)).alloc (.cells #[] 3)).heap.size = w.heap.size + 1 + 1 + 1 := by simp
  rw [alloc_size, alloc_size] at hO
  rw [alloc_size] at hr3
  have HO := Lib.hid hO
  have HB3 := Lib.hid hb3
  have HI3 := Lib.hid hi3
  have HR3 := Lib.hid hr3
  have HZ3 := Lib.hid hz3
  clear hO hb3 hi3 hr3 hz3
  go_wp2_with (at_builtin; (refine print_append_row (w.heap.size + 1 + 1) rfl (.tmp 3) (.tmp 10) 22 3 .i64 8 rfl Tryd.underlying22 info_int (by decide) _ [] (m.args.take 70) a _ c rfl rfl HO.out (HRD.out.below HB3.out) (Below.refl _ _) (by rw [HZ3.out]; omega) (by rw [List.length_nil]; omega) ?_; intro v1 w1 hown hB _ _; rw [List.nil_append] at hown; obtain ⟨A1, c1, hv1, hr1, hc1, hf1⟩ := own_args hown; subst hv1; have hi := (hB.block w.heap.size (by omega)).trans HI3.out; have hr := (hB.block (w.heap.size + 1) (by omega)).trans HR3.out; have hbw := HB3.out.trans (hB.mono (show w.heap.size ≤ w.heap.size + 1 + 1 by omega)); have i0 := cell_blk hi 0; have i1 := cell_blk hi 1; have i2 := cell_blk hi 2; have i3 := cell_blk hi 3; have i4 := cell_blk hi 4; have i5 := cell_blk hi 5; have i6 := cell_blk hi 6; have i7 := cell_blk hi 7; have z7 := froz_blk hi 7; have r0 := cell_blk hr 0; have r1 := cell_blk hr 1; have r2 := cell_blk hr 2; have r3 := cell_blk hr 3; have r4 := cell_blk hr 4; have r5 := cell_blk hr 5; have r6 := cell_blk hr 6; have r7 := cell_blk hr 7; have zr := fun i => froz_blk hr i; have HOWN := Lib.hid hown; have HR1 := Lib.hid hr1; have HC1 := Lib.hid hc1; have HF1 := Lib.hid hf1; have HBW := Lib.hid hbw; clear hi hr hbw hown hr1 hc1 hf1 hB))
  have hle : (fewM m).args.length = min 70 m.args.length := by show (m.args.take 70).length = _; rw [List.length_take]
  have hne : ∀ ad, A1 = some ad → ad.block ≠ w.heap.size + 1 := fun ad ha => by have := HF1.out ad ha; omega
  have hne0 : ∀ ad, A1 = some ad → ad.block ≠ w.heap.size := fun ad ha => by have := HF1.out ad ha; omega
  refine bodyPost_ret (v := .agg #[.int .i64 m.op, .int .i64 m.d, .int .i64 m.e, .int .i64 m.a, .int .i64 m.b, .int .i64 m.c, .int .i32 m.imm, .slice A1 (min 70 m.args.length) c1]) (by simp [results, Tryd.results13, go_sem, r0, r1, r2, r3, r4, r5, r6, r7]) rfl ?_
  refine ⟨A1, c1, ?_, ?_, ?_, fun ad ha => by have := HF1.out ad ha; omega⟩
  · unfold cellsM
    rw [hle]
    rfl
  · exact below_set (below_set (below_set (below_set (below_set (below_set (below_set (below_set (below_set HBW.out (by omega) _ _) (by omega) _ _) (by omega) _ _) (by omega) _ _) (by omega) _ _) (by omega) _ _) (by omega) _ _) (by omega) _ _) (by omega) _ _
  · refine ArgsIn.set ?_ hne _ _
    refine ArgsIn.set ?_ hne _ _
    refine ArgsIn.set ?_ hne _ _
    refine ArgsIn.set ?_ hne _ _
    refine ArgsIn.set ?_ hne _ _
    refine ArgsIn.set ?_ hne _ _
    refine ArgsIn.set ?_ hne _ _
    refine ArgsIn.set ?_ hne _ _
    refine ArgsIn.set ?_ hne0 _ _
    exact ⟨HR1.out, HC1.out⟩
end
section
open Go Go.RowKit Go.ChangeMaps Go.Proofs.YtmoplcchiadlpaaDoorW.PrintWords

/-- Block b is an instruction. -/
def MachAt (w : World) (b : Nat) (m : M) (a : Option Addr) (c : Nat) : Prop := w.heap[b]? = some (.cells (cellsM m a c) 24 (0, 0))
theorem MachAt.cells {w : World} {b : Nat} {m : M} {a : Option Addr} {c : Nat} (h : MachAt w b m a c) :
    w.cell? ⟨b, 0, none⟩ = some (.int .i64 m.op) ∧ w.cell? ⟨b, 1, none⟩ = some (.int .i64 m.d) ∧ w.cell? ⟨b, 2, none⟩ = some (.int .i64 m.e) ∧ w.cell? ⟨b, 3, none⟩ = some (.int .i64 m.a) ∧ w.cell? ⟨b, 4, none⟩ = some (.int .i64 m.b) ∧
    w.cell? ⟨b, 5, none⟩ = some (.int .i64 m.c) ∧ w.cell? ⟨b, 6, none⟩ = some (.int .i32 m.imm) ∧ w.cell? ⟨b, 7, none⟩ = some (.slice a m.args.length c) ∧ ∀ i, w.frozen? ⟨b, i, none⟩ = false :=
  ⟨(cell_blk h 0).trans rfl, (cell_blk h 1).trans rfl, (cell_blk h 2).trans rfl, (cell_blk h 3).trans rfl, (cell_blk h 4).trans rfl, (cell_blk h 5).trans rfl, (cell_blk h 6).trans rfl, (cell_blk h 7).trans rfl, fun i => froz_blk h i⟩
theorem MachAt.lt {w : World} {b : Nat} {m : M} {a : Option Addr} {c : Nat} (h : MachAt w b m a c) : b < w.heap.size := blk_lt' h
theorem MachAt.below {w w1 : World} {b : Nat} {m : M} {a : Option Addr} {c : Nat} (h : MachAt w b m a c) (hb : Below w.heap.size w w1) : MachAt w1 b m a c := (hb.block b h.lt).trans h
theorem MachAt.grown {w w1 : World} {b g : Nat} {m : M} {a : Option Addr} {c : Nat} (h : MachAt w b m a c) (hg : w.grownBy w1 (some g)) (hne : b ≠ g) : MachAt w1 b m a c := grown_blk h hg (by simpa using hne)
/-- The eight cells, stored one by one. -/
def set8 (w : World) (b : Nat) (m : M) (a : Option Addr) (c : Nat) : World :=
  (((((((w.setCell ⟨b, 0, none⟩ (.int .i64 m.op)).setCell ⟨b, 1, none⟩ (.int .i64 m.d)).setCell ⟨b, 2, none⟩ (.int .i64 m.e)).setCell ⟨b, 3, none⟩ (.int .i64 m.a)).setCell ⟨b, 4, none⟩ (.int .i64 m.b)).setCell ⟨b, 5, none⟩ (.int .i64 m.c)).setCell ⟨b, 6, none⟩ (.int .i32 m.imm)).setCell ⟨b, 7, none⟩ (.slice a m.args.length c)
theorem set8_grown (w : World) (b : Nat) (m : M) (a : Option Addr) (c : Nat) : w.grownBy (set8 w b m a c) (some b) := by
  unfold set8
  refine grown_set ?_ _ _
  refine grown_set ?_ _ _
  refine grown_set ?_ _ _
  refine grown_set ?_ _ _
  refine grown_set ?_ _ _
  refine grown_set ?_ _ _
  refine grown_set ?_ _ _
  refine grown_set ?_ _ _
  exact World.grownBy.refl w (some b)
theorem set8_at {w : World} {b : Nat} {m0 : M} {a0 : Option Addr} {c0 : Nat} (h : MachAt w b m0 a0 c0) (m : M) (a : Option Addr) (c : Nat) : MachAt (set8 w b m a c) b m a c := by
  have h0 : w.heap[b]? = some (.cells #[.int .i64 m0.op, .int .i64 m0.d, .int .i64 m0.e, .int .i64 m0.a, .int .i64 m0.b, .int .i64 m0.c, .int .i32 m0.imm, .slice a0 m0.args.length c0] 24 (0, 0)) := h
  have h1 : (w.setCell ⟨b, 0, none⟩ (.int .i64 m.op)).heap[b]? = some (.cells #[.int .i64 m.op, .int .i64 m0.d, .int .i64 m0.e, .int .i64 m0.a, .int .i64 m0.b, .int .i64 m0.c, .int .i32 m0.imm, .slice a0 m0.args.length c0] 24 (0, 0)) := set_cells h0 0 _
  generalize hw1 : (w.setCell ⟨b, 0, none⟩ (.int .i64 m.op)) = w1 at h1
  have h2 : (w1.setCell ⟨b, 1, none⟩ (.int .i64 m.d)).heap[b]? = some (.cells #[.int .i64 m.op, .int .i64 m.d, .int .i64 m0.e, .int .i64 m0.a, .int .i64 m0.b, .int .i64 m0.c, .int .i32 m0.imm, .slice a0 m0.args.length c0] 24 (0, 0)) := set_cells h1 1 _
  generalize hw2 : (w1.setCell ⟨b, 1, none⟩ (.int .i64 m.d)) = w2 at h2
  have h3 : (w2.setCell ⟨b, 2, none⟩ (.int .i64 m.e)).heap[b]? = some (.cells #[.int .i64 m.op, .int .i64 m.d, .int .i64 m.e, .int .i64 m0.a, .int .i64 m0.b, .int .i64 m0.c, .int .i32 m0.imm, .slice a0 m0.args.length c0] 24 (0, 0)) := set_cells h2 2 _
  generalize hw3 : (w2.setCell ⟨b, 2, none⟩ (.int .i64 m.e)) = w3 at h3
  have h4 : (w3.setCell ⟨b, 3, none⟩ (.int .i64 m.a)).heap[b]? = some (.cells #[.int .i64 m.op, .int .i64 m.d, .int .i64 m.e, .int .i64 m.a, .int .i64 m0.b, .int .i64 m0.c, .int .i32 m0.imm, .slice a0 m0.args.length c0] 24 (0, 0)) := set_cells h3 3 _
  generalize hw4 : (w3.setCell ⟨b, 3, none⟩ (.int .i64 m.a)) = w4 at h4
  have h5 : (w4.setCell ⟨b, 4, none⟩ (.int .i64 m.b)).heap[b]? = some (.cells #[.int .i64 m.op, .int .i64 m.d, .int .i64 m.e, .int .i64 m.a, .int .i64 m.b, .int .i64 m0.c, .int .i32 m0.imm, .slice a0 m0.args.length c0] 24 (0, 0)) := set_cells h4 4 _
  generalize hw5 : (w4.setCell ⟨b, 4, none⟩ (.int .i64 m.b)) = w5 at h5
  have h6 : (w5.setCell ⟨b, 5, none⟩ (.int .i64 m.c)).heap[b]? = some (.cells #[.int .i64 m.op, .int .i64 m.d, .int .i64 m.e, .int .i64 m.a, .int .i64 m.b, .int .i64 m.c, .int .i32 m0.imm, .slice a0 m0.args.length c0] 24 (0, 0)) := set_cells h5 5 _
  generalize hw6 : (w5.setCell ⟨b, 5, none⟩ (.int .i64 m.c)) = w6 at h6
  have h7 : (w6.setCell ⟨b, 6, none⟩ (.int .i32 m.imm)).heap[b]? = some (.cells #[.int .i64 m.op, .int .i64 m.d, .int .i64 m.e, .int .i64 m.a, .int .i64 m.b, .int .i64 m.c, .int .i32 m.imm, .slice a0 m0.args.length c0] 24 (0, 0)) := set_cells h6 6 _
  generalize hw7 : (w6.setCell ⟨b, 6, none⟩ (.int .i32 m.imm)) = w7 at h7
  have h8 : (w7.setCell ⟨b, 7, none⟩ (.slice a m.args.length c)).heap[b]? = some (.cells #[.int .i64 m.op, .int .i64 m.d, .int .i64 m.e, .int .i64 m.a, .int .i64 m.b, .int .i64 m.c, .int .i32 m.imm, .slice a m.args.length c] 24 (0, 0)) := set_cells h7 7 _
  generalize hw8 : (w7.setCell ⟨b, 7, none⟩ (.slice a m.args.length c)) = w8 at h8
  have e : set8 w b m a c = w8 := by unfold set8; rw [hw1, hw2, hw3, hw4, hw5, hw6, hw7, hw8]
  rw [e]
  exact h8
theorem ArgsIn.grown {w w1 : World} {m : M} {a : Option Addr} {c g : Nat} (h : ArgsIn w m a c) (hg : w.grownBy w1 (some g)) (hne : ∀ ad, a = some ad → ad.block ≠ g) : ArgsIn w1 m a c := by
  refine ⟨⟨h.reads.1, h.reads.2.1, fun hn => ?_⟩, h.cap⟩
  obtain ⟨ad, ha, hc⟩ := h.reads.2.2 hn
  refine ⟨ad, ha, fun j hj => ?_⟩
  have hcell := hc j hj
  have hlt := World.block_lt_of_cell? w _ hcell
  rw [← hcell]
  apply World.cell?_of_block
  exact hg.block _ hlt (by
    rw [addr_add_block]
    have := hne ad ha
    simpa using this)
theorem ArgsIn.same {w : World} {m m' : M} {a : Option Addr} {c : Nat} (h : ArgsIn w m a c) (e : m'.args = m.args) : ArgsIn w m' a c := ⟨by rw [e]; exact h.reads, by rw [e]; exact h.cap⟩
/-- Numbers of Go, but for how many Args there are. -/
structure InGo (m : M) : Prop where
  imm : -2147483648 ≤ m.imm ∧ m.imm ≤ 2147483647
  op : In64 m.op
  d : In64 m.d
  e : In64 m.e
  a : In64 m.a
  b : In64 m.b
  c : In64 m.c
  args : ∀ x ∈ m.args, In64 x
theorem InGo.few {m : M} (h : InGo m) : InR (fewM m) :=
  ⟨h.imm, h.op, h.d, h.e, h.a, h.b, h.c, fun x hx => h.args x (List.mem_of_mem_take hx), by show (m.args.take 70).length ≤ 1000000; rw [List.length_take]; omega⟩
/-- What an argument that is an instruction is known by. -/
def CameIn (w : World) (m : M) (a : Option Addr) (c : Nat) : Prop :=
  ArgsIn w m a c ∧ (-2147483648 ≤ m.imm ∧ m.imm ≤ 2147483647) ∧ In64 m.op ∧ In64 m.d ∧ In64 m.e ∧ In64 m.a ∧ In64 m.b ∧ In64 m.c ∧ ∀ x ∈ m.args, In64 x
theorem CameIn.go {w : World} {m : M} {a : Option Addr} {c : Nat} (h : CameIn w m a c) : InGo m := ⟨h.2.1, h.2.2.1, h.2.2.2.1, h.2.2.2.2.1, h.2.2.2.2.2.1, h.2.2.2.2.2.2.1, h.2.2.2.2.2.2.2.1, h.2.2.2.2.2.2.2.2⟩
end
section
open Go Go.RowKit Go.ChangeMaps Go.Proofs.YtmoplcchiadlpaaDoorW.PrintWords

theorem bs_cut (l : List UInt8) (k : Nat) : (bs l).extract 0 k = bs (l.take k) := by
  apply ByteArray.ext
  apply Array.toList_inj.1
  simp [ByteArray.data_extract]
theorem cut_min (l : List UInt8) (k : Nat) : (bs l).extract 0 (min (l.length : Int) k).toNat = bs (l.take k) := by
  rw [bs_cut]
  by_cases h : l.length ≤ k
  · rw [List.take_of_length_le h, List.take_of_length_le (by omega)]
  · rw [show (min (l.length : Int) k).toNat = k by omega]
theorem emod_lt_nat (x : Int) (n : Nat) (h : 1 ≤ n) : (x % (n : Int)).toNat < n ∧ 0 ≤ x % (n : Int) ∧ x % (n : Int) < n := by
  have h1 := Int.emod_nonneg x (show (n : Int) ≠ 0 by omega)
  have h2 := Int.emod_lt_of_pos x (show (0 : Int) < n by omega)
  omega
theorem bs_of (s : ByteArray) : ∃ l, s = bs l := ⟨s.data.toList, by apply ByteArray.ext; simp⟩
end
end Go.Proofs.YtmoplcchiadlpaaDoor.Jc
end
section
set_option linter.unusedVariables false
set_option linter.unusedSimpArgs false
namespace Go.Proofs.YtmoplcchiadlpaaDoor.Jc
open Go

theorem byteI_take (s : List UInt8) (k j : Nat) (h : j < k) : byteI (s.take k) j = byteI s j := by
  unfold byteI
  simp [List.getD_eq_getElem?_getD, List.getElem?_take, h]
theorem slice_take (s : List UInt8) (k p n : Nat) (h : p + n ≤ k) : ((s.take k).drop p).take n = (s.drop p).take n := by
  rw [List.drop_take, List.take_take]
  congr 1
  omega
theorem getRegs_take (s : List UInt8) : ∀ (l : List UInt8) (m : M) (p : Nat) (m' : M) (p' : Nat), getRegs s l m p = .ok (m', p') →
    p ≤ p' ∧ (p ≤ s.length → p' ≤ s.length) ∧ ∀ k, k ≤ s.length → (p' ≤ k → getRegs (s.take k) l m p = .ok (m', p')) ∧ (p ≤ k → k < p' → getRegs (s.take k) l m p = .error 62)
  | [], m, p, m', p', h => by
    cases h
    exact ⟨Nat.le_refl _, fun h => h, fun k hk => ⟨fun _ => rfl, fun h1 h2 => absurd h2 (by omega)⟩⟩
  | [x], m, p, m', p', h => by
    unfold getRegs at h
    split at h
    · rename_i hp
      cases h
      refine ⟨by omega, fun _ => by omega, fun k hk => ⟨fun h1 => ?_, fun h1 h2 => ?_⟩⟩
      · unfold getRegs
        rw [if_pos (by rw [List.length_take]; omega), byteI_take s k p (by omega)]
      · unfold getRegs
        rw [if_neg (by rw [List.length_take]; omega)]
    · cases h
  | x :: y :: r, m, p, m', p', h => by
    unfold getRegs at h
    split at h
    · rename_i hp
      obtain ⟨h1, h2, h3⟩ := getRegs_take s r _ (p + 1) m' p' h
      refine ⟨by omega, fun _ => h2 (by omega), fun k hk => ⟨fun hk1 => ?_, fun hk1 hk2 => ?_⟩⟩
      · unfold getRegs
        rw [if_pos (by rw [List.length_take]; omega), byteI_take s k p (by omega)]
        exact (h3 k hk).1 hk1
      · unfold getRegs
        by_cases hlt : p < k
        · rw [if_pos (by rw [List.length_take]; omega), byteI_take s k p hlt]
          exact (h3 k hk).2 (by omega) hk2
        · rw [if_neg (by rw [List.length_take]; omega)]
    · cases h

theorem tableArgs_take (s : List UInt8) (k p : Nat) (far : Bool) (n : Nat) (h : p + 1 + 3 * n ≤ k) : tableArgs (s.take k) p far n = tableArgs s p far n := by
  unfold tableArgs
  apply List.map_congr_left
  intro j hj
  rw [List.mem_range] at hj
  rw [slice_take s k _ 3 (by omega)]
theorem getNum_take (s : List UInt8) (m : M) (p : Nat) (far : Bool) (m' : M) (p' : Nat) (h : getNum s m p far = .ok (m', p')) :
    p ≤ p' ∧ (p ≤ s.length → p' ≤ s.length) ∧ ∀ k, k ≤ s.length → (p' ≤ k → getNum (s.take k) m p far = .ok (m', p')) ∧ (p ≤ k → k < p' → getNum (s.take k) m p far = .error 62) := by
  have hlen : ∀ k, k ≤ s.length → (s.take k).length = k := fun k hk => by rw [List.length_take]; omega
  unfold getNum at h
  by_cases n0 : numF m.op = 0
  · rw [if_pos n0] at h
    cases h
    exact ⟨Nat.le_refl _, fun h => h, fun k hk => ⟨fun _ => by unfold getNum; rw [if_pos n0], fun h1 h2 => absurd h2 (by omega)⟩⟩
  rw [if_neg n0] at h
  by_cases n1 : numF m.op = 110
  · rw [if_pos n1] at h
    split at h
    · cases h
    split at h
    · cases h
    cases h
    refine ⟨by omega, fun _ => by omega, fun k hk => ⟨fun h1 => ?_, fun h1 h2 => ?_⟩⟩
    · unfold getNum
      rw [if_neg n0, if_pos n1, hlen k hk, if_neg (by omega), if_neg (by omega), slice_take s k _ 4 (by omega), byteI_take s k p (by omega)]
    · unfold getNum
      rw [if_neg n0, if_pos n1, hlen k hk]
      by_cases hq : k < p + 1
      · rw [if_pos hq]
      · rw [if_neg hq, if_pos (by omega)]
  rw [if_neg n1] at h
  by_cases n2 : numF m.op = 101
  · rw [if_pos n2] at h
    split at h
    · cases h
    cases h
    refine ⟨by omega, fun _ => by omega, fun k hk => ⟨fun h1 => ?_, fun h1 h2 => ?_⟩⟩
    · unfold getNum
      rw [if_neg n0, if_neg n1, if_pos n2, hlen k hk, if_neg (by omega), byteI_take s k p (by omega)]
    · unfold getNum
      rw [if_neg n0, if_neg n1, if_pos n2, hlen k hk, if_pos (by omega)]
  rw [if_neg n2] at h
  by_cases n3 : numF m.op = 116
  · rw [if_pos n3] at h
    split at h
    · cases h
    rename_i q1
    split at h
    · cases h
    rename_i q2
    split at h
    · cases h
    rename_i q3
    cases h
    refine ⟨by omega, fun _ => by omega, fun k hk => ⟨fun h1 => ?_, fun h1 h2 => ?_⟩⟩
    · unfold getNum
      rw [if_neg n0, if_neg n1, if_neg n2, if_pos n3, hlen k hk, if_neg (by omega), byteI_take s k p (by omega), if_neg q2, if_neg (by omega), tableArgs_take s k p far _ h1]
    · unfold getNum
      rw [if_neg n0, if_neg n1, if_neg n2, if_pos n3, hlen k hk]
      by_cases hq : k < p + 1
      · rw [if_pos hq]
      · rw [if_neg hq, byteI_take s k p (by omega), if_neg q2, if_pos (by omega)]
  rw [if_neg n3] at h
  by_cases n4 : numF m.op = 119
  · rw [if_pos n4] at h
    split at h
    · cases h
    cases h
    refine ⟨by omega, fun _ => by omega, fun k hk => ⟨fun h1 => ?_, fun h1 h2 => ?_⟩⟩
    · unfold getNum
      rw [if_neg n0, if_neg n1, if_neg n2, if_neg n3, if_pos n4, hlen k hk, if_neg (by omega), slice_take s k _ 4 (by omega)]
    · unfold getNum
      rw [if_neg n0, if_neg n1, if_neg n2, if_neg n3, if_pos n4, hlen k hk, if_pos (by omega)]
  rw [if_neg n4] at h
  split at h
  · cases h
  cases h
  refine ⟨by omega, fun _ => by omega, fun k hk => ⟨fun h1 => ?_, fun h1 h2 => ?_⟩⟩
  · unfold getNum
    rw [if_neg n0, if_neg n1, if_neg n2, if_neg n3, if_neg n4, hlen k hk, if_neg (by omega), slice_take s k _ _ (by omega)]
  · unfold getNum
    rw [if_neg n0, if_neg n1, if_neg n2, if_neg n3, if_neg n4, hlen k hk, if_pos (by omega)]

theorem getM_ok {s : List UInt8} {m : M} {n : Nat} (h : getM s = .ok (m, n)) : ∃ m0, getRaw s = .ok (m, n) ∧ put m = .ok (s.take n) ∧ m = m0 := by
  unfold getM at h
  cases hr : getRaw s with
  | error e => rw [hr] at h; cases h
  | ok q =>
    rw [hr] at h
    simp only [] at h
    cases hp : put q.1 with
    | error e => rw [hp] at h; cases h
    | ok t =>
      rw [hp] at h
      simp only [] at h
      split at h
      · rename_i ht
        cases h
        exact ⟨m, rfl, by rw [hp, ht], rfl⟩
      · cases h
theorem getRaw_ok {s : List UInt8} {m : M} {n : Nat} (h : getRaw s = .ok (m, n)) : s.length ≠ 0 ∧ (known (opB s) && (!farB s || decide (numF (opB s) = 98))) = true ∧
    ∃ q r, getRegs s (regsF (opB s)) (startM s) 1 = .ok q ∧ getNum s q.1 q.2 (farB s) = .ok r ∧ m = fixE r.1 ∧ n = r.2 := by
  unfold getRaw at h
  split at h
  · cases h
  rename_i h0
  split at h
  · cases h
  rename_i h1
  rw [Bool.not_eq_false] at h1
  cases hq : getRegs s (regsF (opB s)) (startM s) 1 with
  | error e => rw [hq] at h; cases h
  | ok q =>
    rw [hq] at h
    simp only [] at h
    cases hn : getNum s q.1 q.2 (farB s) with
    | error e => rw [hn] at h; cases h
    | ok r =>
      rw [hn] at h
      cases h
      exact ⟨h0, h1, q, r, rfl, hn, rfl, rfl⟩
/-- P18.6: what is got is put as just the bytes that were read; of fewer nothing is got. -/
theorem getM_only {s : List UInt8} {m : M} {n : Nat} (h : getM s = .ok (m, n)) : 1 ≤ n ∧ n ≤ s.length ∧ put m = .ok (s.take n) ∧ ∀ k, k < n → getM (s.take k) = .error 62 := by
  obtain ⟨_, hr, hp, _⟩ := getM_ok h
  obtain ⟨h0, h1, ⟨m1, p1⟩, ⟨m2, p2⟩, hq, hn, _, rfl⟩ := getRaw_ok hr
  simp only [] at hn
  obtain ⟨a1, a2, a3⟩ := getRegs_take s _ _ _ _ _ hq
  obtain ⟨b1, b2, b3⟩ := getNum_take s _ _ _ _ _ hn
  have hle : n ≤ s.length := b2 (a2 (by omega))
  refine ⟨by omega, hle, hp, fun k hk => ?_⟩
  have hlen : (s.take k).length = k := by rw [List.length_take]; omega
  unfold getM getRaw
  by_cases hk0 : k = 0
  · rw [if_pos (by rw [hlen]; exact hk0)]
  rw [if_neg (by rw [hlen]; exact hk0)]
  have e0 : byteI (s.take k) 0 = byteI s 0 := byteI_take s k 0 (by omega)
  have e1 : opB (s.take k) = opB s := by unfold opB; rw [e0]
  have e2 : farB (s.take k) = farB s := by unfold farB; rw [e0]
  have e3 : startM (s.take k) = startM s := by unfold startM; rw [e1, e2]
  rw [e1, e2, e3, if_neg (by rw [h1]; simp)]
  by_cases hk1 : p1 ≤ k
  · rw [(a3 k (by omega)).1 hk1]
    simp only []
    rw [(b3 k (by omega)).2 hk1 hk]
  · rw [(a3 k (by omega)).2 (by omega) (by omega)]
theorem getS_only {s : List UInt8} (h : getE s = 0) : ∃ n : Nat, getN s = (n : Int) ∧ 1 ≤ n ∧ n ≤ s.length ∧ putS (getI s) = s.take n ∧ putE (getI s) = 0 ∧ ∀ k, k < n → getE (s.take k) = 62 ∧ getN (s.take k) = 0 := by
  unfold getE at h
  cases hg : getM s with
  | error k =>
    rw [hg] at h
    have h : k = 0 := h
    rcases getM_err hg with h1 | h1 <;> omega
  | ok r =>
    obtain ⟨m, n⟩ := r
    obtain ⟨h1, h2, h3, h4⟩ := getM_only hg
    have e1 : getI s = m := by unfold getI; rw [hg]
    refine ⟨n, by unfold getN; rw [hg], h1, h2, by rw [e1]; unfold putS; rw [h3], by rw [e1]; unfold putE; rw [h3], fun k hk => ?_⟩
    have h5 := h4 k hk
    exact ⟨by unfold getE; rw [h5], by unfold getN; rw [h5]⟩
theorem getS_none {s : List UInt8} (h : getE s ≠ 0) : getI s = zeroM ∧ getN s = 0 ∧ (getE s = 62 ∨ getE s = 60) := by
  unfold getE getI getN at *
  cases hg : getM s with
  | error k => exact ⟨rfl, rfl, getM_err hg⟩
  | ok r => rw [hg] at h; exact absurd rfl h

/-! What is got is an instruction of Go's numbers. -/
theorem byte_in (s : List UInt8) (p : Nat) : In64 (byteI s p) ∧ In64 (byteI s p / 16) ∧ In64 (byteI s p % 16) := by
  have h := byteI_range s p
  exact ⟨⟨by omega, by omega⟩, ⟨by omega, by omega⟩, ⟨by omega, by omega⟩⟩
theorem getRegs_in (s : List UInt8) : ∀ (l : List UInt8) (m : M) (p : Nat) (m' : M) (p' : Nat), InR m → getRegs s l m p = .ok (m', p') → InR m' ∧ m'.args = m.args ∧ m'.op = m.op
  | [], m, p, m', p', hm, h => by cases h; exact ⟨hm, rfl, rfl⟩
  | [x], m, p, m', p', hm, h => by
    unfold getRegs at h
    split at h
    · cases h
      exact ⟨setReg_in _ hm _ _ (byte_in s p).2.1, setReg_args _ _ _, setReg_op _ _ _⟩
    · cases h
  | x :: y :: r, m, p, m', p', hm, h => by
    unfold getRegs at h
    split at h
    · obtain ⟨h1, h2, h3⟩ := getRegs_in s r _ _ m' p' (setReg_in _ (setReg_in _ hm _ _ (byte_in s p).2.1) _ _ (byte_in s p).2.2) h
      exact ⟨h1, by rw [h2, setReg_args, setReg_args], by rw [h3, setReg_op, setReg_op]⟩
    · cases h
theorem getNum_in (s : List UInt8) (m : M) (p : Nat) (far : Bool) (m' : M) (p' : Nat) (hm : InR m) (h : getNum s m p far = .ok (m', p')) : InR m' := by
  unfold getNum at h
  split at h
  · cases h; exact hm
  split at h
  · split at h
    · cases h
    split at h
    · cases h
    cases h
    exact ⟨i32_range _, hm.op, hm.d, hm.e, hm.a, hm.b, hm.c, callArgs_in _ (by omega), by show (callArgs _).length ≤ 1000000; rw [callArgs_length]; omega⟩
  split at h
  · split at h
    · cases h
    cases h
    exact ⟨hm.imm, hm.op, hm.d, (byte_in s p).1, hm.a, hm.b, hm.c, hm.args, hm.few⟩
  split at h
  · split at h
    · cases h
    split at h
    · cases h
    rename_i hb
    split at h
    · cases h
    cases h
    exact ⟨hm.imm, hm.op, hm.d, hm.e, hm.a, hm.b, hm.c, tableArgs_in _ _ _ _, by show (tableArgs _ _ _ _).length ≤ 1000000; rw [tableArgs_length]; omega⟩
  split at h
  · split at h
    · cases h
    cases h
    exact ⟨i32_range _, hm.op, hm.d, hm.e, hm.a, hm.b, hm.c, hm.args, hm.few⟩
  · split at h
    · cases h
    cases h
    exact ⟨i32_range _, hm.op, hm.d, hm.e, hm.a, hm.b, hm.c, hm.args, hm.few⟩
theorem fixE_in {m : M} (h : InR m) : InR (fixE m) := by
  unfold fixE
  split
  · exact ⟨h.imm, h.op, h.d, ⟨by show (-9223372036854775808 : Int) ≤ 1; decide, by show (1 : Int) ≤ 9223372036854775807; decide⟩, h.a, h.b, h.c, h.args, h.few⟩
  · exact h
theorem zeroM_in : InR zeroM := ⟨⟨by show (-2147483648 : Int) ≤ 0; decide, by show (0 : Int) ≤ 2147483647; decide⟩, ⟨by show (-9223372036854775808 : Int) ≤ 0; decide, by show (0 : Int) ≤ 9223372036854775807; decide⟩, ⟨by show (-9223372036854775808 : Int) ≤ 0; decide, by show (0 : Int) ≤ 9223372036854775807; decide⟩, ⟨by show (-9223372036854775808 : Int) ≤ 0; decide, by show (0 : Int) ≤ 9223372036854775807; decide⟩, ⟨by show (-9223372036854775808 : Int) ≤ 0; decide, by show (0 : Int) ≤ 9223372036854775807; decide⟩, ⟨by show (-9223372036854775808 : Int) ≤ 0; decide, by show (0 : Int) ≤ 9223372036854775807; decide⟩, ⟨by show (-9223372036854775808 : Int) ≤ 0; decide, by show (0 : Int) ≤ 9223372036854775807; decide⟩, fun x hx => absurd hx (by simp [zeroM]), by simp [zeroM]⟩
theorem getI_in (s : List UInt8) : InR (getI s) := by
  unfold getI
  cases hg : getM s with
  | error k => exact zeroM_in
  | ok r =>
    obtain ⟨m, n⟩ := r
    obtain ⟨_, hr, _, _⟩ := getM_ok hg
    obtain ⟨_, _, ⟨m1, p1⟩, ⟨m2, p2⟩, hq, hn, rfl, _⟩ := getRaw_ok hr
    exact fixE_in (getNum_in s _ _ _ _ _ (getRegs_in s _ _ _ _ _ (startM_in s) hq).1 hn)
end Go.Proofs.YtmoplcchiadlpaaDoor.Jc
end
section
set_option linter.unusedVariables false
set_option linter.unusedSimpArgs false
namespace Go.Proofs.YtmoplcchiadlpaaDoor.Jc
open Go Go.RowKit Go.ChangeMaps Go.Proofs.YtmoplcchiadlpaaDoorW.PrintWords Go.Proofs.YtmoplcchiadlpaaDoorW.PrintLast Go.Proofs.YtmoplcchiadlpaaDoorW.PrintMore

theorem drawn_below {w w' : World} (h : Drawn0 w w') : Below w.heap.size w w' := by
  obtain ⟨n, rfl⟩ := h.out
  exact ⟨rfl, rfl, rfl, Nat.le_refl _, fun _ _ => rfl⟩
theorem op_range (op : Int) (h : ¬ (1 ≤ op ∧ op ≤ 51)) : fieldsOf op = [] ∧ known op = false := by
  have hk : known op = false := by
    cases hk : known op
    · rfl
    · exact absurd (op_known op hk) h
  refine ⟨?_, hk⟩
  unfold known at hk
  unfold fieldsOf
  cases hi : info op tab with
  | none => rfl
  | some x => rw [hi] at hk; cases hk
theorem fields_in : ((List.range 52).all fun n => decide (S.jacquardref18_Fields.f 8 (n : Int) = some (bs (fieldsOf n)))) = true := by decide +kernel
theorem fields_f (op : Int) : S.jacquardref18_Fields.f 8 op = some (bs (fieldsOf op)) := by
  by_cases h : 0 ≤ op ∧ op ≤ 51
  · have h1 := List.all_eq_true.1 fields_in op.toNat (by rw [List.mem_range]; omega)
    rw [decide_eq_true_eq, Int.toNat_of_nonneg h.1] at h1
    exact h1
  · rw [(op_range op (by omega)).1]
    have hn : ∀ k : Int, 0 ≤ k → k ≤ 51 → ¬ op = k := fun k h1 h2 h3 => by omega
    have hb : ∀ k : Int, 0 ≤ k → k ≤ 51 → (op == k) = false := fun k h1 h2 => by simpa using hn k h1 h2
    by_cases h5 : op ≥ 5
    · have h43 : op ≥ 43 := by omega
      have h17 : decide (op ≤ 17) = false := by simp; omega
      have h48 : decide (op ≤ 48) = false := by simp; omega
      simp [S.jacquardref18_Fields.f, S.jacquardref18_Fields.j0, S.jacquardref18_Fields.j1, S.jacquardref18_Fields.j2, S.jacquardref18_Fields.j3, S.jacquardref18_Fields.j4, S.jacquardref18_Fields.j5, h5, h43, h17, h48, hn, hb]
    · have h43 : ¬ op ≥ 43 := by omega
      simp [S.jacquardref18_Fields.f, S.jacquardref18_Fields.j0, S.jacquardref18_Fields.j1, S.jacquardref18_Fields.j2, S.jacquardref18_Fields.j3, S.jacquardref18_Fields.j4, S.jacquardref18_Fields.j5, h5, h43, hn, hb]
theorem fields_any (op : Int) (w : World) : Calls Tryd.prog 50 #[.int .i64 op] w fun e w' => e = .returned (.string (bs (fieldsOf op))) ∧ Below w.heap.size w w' :=
  (S.jacquardref18_Fields.calls 8 op _ w (fields_f op)).mono fun e w' h => ⟨h.1, drawn_below h.2⟩

theorem bt_bs (l : List UInt8) (i : Nat) (h : i < l.length) : bt (bs l) (i : Int) = ((l[i]'h).toNat : Int) := by
  have hs := bs_size l
  unfold bt
  simp only [Int.toNat_natCast]
  first | rw [dif_pos (by rw [hs]; exact h)] | (simp [hs, h]; done)
  rfl
theorem wrap_nat {n : Nat} (h : n < 1000000) : wrap64 ((n : Int) + 1) = ((n + 1 : Nat) : Int) := by
  unfold wrap64
  omega
theorem lhas_loop (x : UInt8) (l : List UInt8) (hl : l.length < 1000) : ∀ (d i k : Nat), i + d = l.length → d < k → S.jacquardlaw18_has.l0 k (x.toNat : Int) (bs l) (i : Int) = some (decide (x ∈ l.drop i))
  | 0, i, k, hd, hk => by
    obtain ⟨k, rfl⟩ : ∃ m, k = m + 1 := ⟨k - 1, by omega⟩
    have hs := bs_size l
    simp only [S.jacquardlaw18_has.l0]
    rw [if_neg (by rw [hs]; omega), List.drop_of_length_le (by omega)]
    simp
  | d + 1, i, k, hd, hk => by
    obtain ⟨k, rfl⟩ : ∃ m, k = m + 1 := ⟨k - 1, by omega⟩
    have hs := bs_size l
    have hi : i < l.length := by omega
    have ih := lhas_loop x l hl d (i + 1) k (by omega) (by omega)
    simp only [S.jacquardlaw18_has.l0]
    rw [if_pos (by rw [hs]; omega), if_pos (by omega), bt_bs l i hi, List.drop_eq_getElem_cons hi]
    by_cases hx : l[i] = x
    · rw [if_pos (by rw [hx])]
      congr 1
      symm
      rw [decide_eq_true_eq, hx]
      exact List.mem_cons_self
    · have hne : ¬ ((l[i].toNat : Int) = (x.toNat : Int)) := fun h => hx (UInt8.toNat_inj.1 (by omega))
      have hne2 : ¬ x = l[i] := fun h => hx h.symm
      rw [if_neg hne, wrap_nat (by omega), ih]
      congr 1
      rw [decide_eq_decide]
      exact ⟨fun h => List.mem_cons_of_mem _ h, fun h => (List.mem_cons.1 h).resolve_left hne2⟩
theorem lhas_any (op : Int) (x : UInt8) (w : World) : Calls Tryd.prog 29 #[.int .i64 op, .int .u8 x.toNat] w fun e w' => e = .returned (.bool (decide (x ∈ fieldsOf op))) ∧ Below w.heap.size w w' := by
  have hl := fields_short op
  have h : S.jacquardlaw18_has.f 8 op (x.toNat : Int) = some (decide (x ∈ fieldsOf op)) := by
    unfold S.jacquardlaw18_has.f
    rw [fields_f]
    exact lhas_loop x (fieldsOf op) (by omega) (fieldsOf op).length 0 8 (by omega) (by omega)
  exact (S.jacquardlaw18_has.calls 8 op _ _ w h).mono fun e w' h => ⟨h.1, drawn_below h.2⟩

/-- Are two instructions the same, in all? -/
def sameM (a b : M) : Bool := a.op == b.op && (a.d == b.d && (a.e == b.e && (a.a == b.a && (a.b == b.b && (a.c == b.c && (a.imm == b.imm && decide (a.args = b.args)))))))
theorem sameM_iff (a b : M) : sameM a b = true ↔ a = b := by
  unfold sameM
  cases a
  cases b
  simp [and_assoc]
theorem nums_loop (l r : List Int) (hl : l.length = r.length) (hs : l.length < 1000000) : ∀ (d i k : Nat), i + d = l.length → d < k → S.jacquardref06_Nums.l0 k l r (i : Int) = some (decide (l.drop i = r.drop i))
  | 0, i, k, hd, hk => by
    obtain ⟨k, rfl⟩ : ∃ m, k = m + 1 := ⟨k - 1, by omega⟩
    simp only [S.jacquardref06_Nums.l0]
    rw [if_neg (by omega), List.drop_of_length_le (by omega), List.drop_of_length_le (by omega)]
    simp
  | d + 1, i, k, hd, hk => by
    obtain ⟨k, rfl⟩ : ∃ m, k = m + 1 := ⟨k - 1, by omega⟩
    have ih := nums_loop l r hl hs d (i + 1) k (by omega) (by omega)
    have hi : i < l.length := by omega
    have hj : i < r.length := by omega
    have e1 : Go.Proofs.YtmoplcchiadlpaaDoorW.PrintWords.rd l (i : Int) = l[i] := by unfold Go.Proofs.YtmoplcchiadlpaaDoorW.PrintWords.rd; simp [hi]
    have e2 : Go.Proofs.YtmoplcchiadlpaaDoorW.PrintWords.rd r (i : Int) = r[i] := by unfold Go.Proofs.YtmoplcchiadlpaaDoorW.PrintWords.rd; simp [hj]
    simp only [S.jacquardref06_Nums.l0]
    rw [if_pos (by omega), if_pos (by omega), if_pos (by omega), e1, e2, List.drop_eq_getElem_cons hi, List.drop_eq_getElem_cons hj]
    by_cases h : l[i] = r[i]
    · rw [if_pos h, wrap_nat (by omega), ih]
      congr 1
      rw [decide_eq_decide, h]
      exact ⟨fun e => by rw [e], fun e => (List.cons.inj e).2⟩
    · rw [if_neg h]
      congr 1
      symm
      rw [decide_eq_false_iff_not]
      exact fun e => h (List.cons.inj e).1
theorem same_f (a b : M) (ha : a.args.length < 1000000) : S.jacquardref06_SameMach.f (a.args.length + 1) a.op a.d a.e a.a a.b a.c a.imm a.args b.op b.d b.e b.a b.b b.c b.imm b.args = some (sameM a b) := by
  have hn : S.jacquardref06_Nums.f (a.args.length + 1) a.args b.args = some (decide (a.args = b.args)) := by
    unfold S.jacquardref06_Nums.f
    by_cases hl : a.args.length = b.args.length
    · rw [if_pos (by omega)]
      exact nums_loop a.args b.args hl ha a.args.length 0 _ (by omega) (by omega)
    · rw [if_neg (by omega)]
      have : ¬ a.args = b.args := fun h => hl (by rw [h])
      simp [this]
  unfold S.jacquardref06_SameMach.f sameM
  rw [hn]
  repeat' split
  all_goals simp [*]
theorem same_any (a b : M) (A B : Option Addr) (ca cb : Nat) (w : World) (ha : ArgsIn w a A ca) (hb : ArgsIn w b B cb) (hs : a.args.length < 1000000) :
    Calls Tryd.prog 26 #[.agg (cellsM a A ca), .agg (cellsM b B cb)] w fun e w' => e = .returned (.bool (sameM a b)) ∧ Below w.heap.size w w' :=
  S.jacquardref06_SameMach.calls (a.args.length + 1) a.op a.d a.e a.a a.b a.c a.imm A ca a.args b.op b.d b.e b.a b.b b.c b.imm B cb b.args _ w (Kd.C_of_reads (d := (0 : Int)) (readsInt_of.1 ha.reads)) ha.cap (Kd.C_of_reads (d := (0 : Int)) (readsInt_of.1 hb.reads)) hb.cap (same_f a b hs)
end Go.Proofs.YtmoplcchiadlpaaDoor.Jc
end
section
set_option linter.unusedVariables false
set_option linter.unusedSimpArgs false
namespace Go.Proofs.YtmoplcchiadlpaaDoor.Jc
section
open Go

/-- An instruction without what its Op has not. -/
def plainM (m : M) : M := ⟨m.op, if (68 : UInt8) ∈ regsF m.op then m.d else 0, if numF m.op = 101 ∨ numF m.op = 98 ∨ m.op = 29 then m.e else 0, if (65 : UInt8) ∈ regsF m.op then m.a else 0, if (66 : UInt8) ∈ regsF m.op then m.b else 0, if (67 : UInt8) ∈ regsF m.op then m.c else 0,
  if numF m.op = 0 ∨ numF m.op = 101 ∨ numF m.op = 116 then 0 else m.imm, if numF m.op = 110 ∨ numF m.op = 116 then m.args else []⟩

theorem plain_reg (m : M) (x : UInt8) (h : x ∈ regsF m.op) : regVal (plainM m) x = regVal m x := by
  have hx := regs_are m.op x h
  unfold isReg at hx
  simp only [Bool.or_eq_true, beq_iff_eq] at hx
  rcases hx with ((rfl | rfl) | rfl) | rfl
  · show (if (68 : UInt8) ∈ regsF m.op then m.d else 0) = m.d
    rw [if_pos h]
  · show (if (65 : UInt8) ∈ regsF m.op then m.a else 0) = m.a
    rw [if_pos h]
  · show (if (66 : UInt8) ∈ regsF m.op then m.b else 0) = m.b
    rw [if_pos h]
  · show (if (67 : UInt8) ∈ regsF m.op then m.c else 0) = m.c
    rw [if_pos h]
theorem plain_vals (m : M) : valsM (plainM m) = valsM m := by
  unfold valsM
  exact List.map_congr_left fun x hx => plain_reg m x hx
theorem op28 : regsF 28 = [] ∧ numF 28 = 110 := by decide +kernel
theorem op29 : regsF 29 = [65, 66] ∧ numF 29 = 0 := by decide +kernel
theorem op50 : numF 50 = 101 := by decide +kernel
theorem num110 {op : Int} (h : numF op = 110) : op = 28 := by
  have := info_all (fun op _ f _ => !((splitF f).2 == 110) || op == 28) (fun _ => rfl) (by decide +kernel) op
  simp [numF] at this h
  rcases this with h0 | h0
  · exact absurd h h0
  · exact h0
theorem num101 {op : Int} (h : numF op = 101) : op = 50 := by
  have := info_all (fun op _ f _ => !((splitF f).2 == 101) || op == 50) (fun _ => rfl) (by decide +kernel) op
  simp [numF] at this h
  rcases this with h0 | h0
  · exact absurd h h0
  · exact h0
theorem plain_far (m : M) : farOf (plainM m) = farOf m := by
  unfold farOf
  by_cases h : numF m.op = 98
  · show (decide (numF m.op = 98) && (if numF m.op = 101 ∨ numF m.op = 98 ∨ m.op = 29 then m.e else 0) == 1) = _
    rw [if_pos (.inr (.inl h))]
  · show (decide (numF m.op = 98) && _) = (decide (numF m.op = 98) && _)
    rw [decide_eq_false h]
    rfl
theorem plain_head (m : M) : headB (plainM m) = headB m := by
  unfold headB
  rw [plain_far]
  rfl
theorem plain_shape (m : M) (h : shapeOk m = true) : shapeOk (plainM m) = true := by
  have hop : (plainM m).op = m.op := rfl
  unfold shapeOk at h ⊢
  rw [hop]
  by_cases h28 : m.op = 28
  · rw [if_pos h28] at h ⊢
    have e1 : (plainM m).args = m.args := by show (if numF m.op = 110 ∨ numF m.op = 116 then m.args else []) = m.args; rw [if_pos (.inl (by rw [h28]; exact op28.2))]
    have e2 : (plainM m).d = 0 := by show (if (68 : UInt8) ∈ regsF m.op then m.d else 0) = 0; rw [h28, op28.1]; rfl
    rw [e1, e2]
    simp only [Bool.and_eq_true] at h ⊢
    exact ⟨h.1, h.2.1, rfl⟩
  rw [if_neg h28] at h ⊢
  by_cases h29 : m.op = 29
  · rw [if_pos h29] at h ⊢
    have e1 : (plainM m).d = 0 := by show (if (68 : UInt8) ∈ regsF m.op then m.d else 0) = 0; rw [h29, op29.1]; rfl
    have e2 : (plainM m).e = m.e := by show (if numF m.op = 101 ∨ numF m.op = 98 ∨ m.op = 29 then m.e else 0) = m.e; rw [if_pos (.inr (.inr h29))]
    rw [e1, e2]
    simp only [Bool.and_eq_true] at h ⊢
    exact ⟨h.1, rfl, h.2.2⟩
  rw [if_neg h29] at h ⊢
  by_cases h98 : numF m.op = 98 ∨ m.op = 50
  · rw [if_pos h98] at h ⊢
    have e2 : (plainM m).e = m.e := by
      show (if numF m.op = 101 ∨ numF m.op = 98 ∨ m.op = 29 then m.e else 0) = m.e
      rw [if_pos]
      rcases h98 with h1 | h1
      · exact .inr (.inl h1)
      · exact .inl (by rw [h1]; exact op50)
    rw [e2]
    exact h
  rw [if_neg h98] at h ⊢
  by_cases h116 : numF m.op = 116
  · rw [if_pos h116] at h ⊢
    have e1 : (plainM m).args = m.args := by show (if numF m.op = 110 ∨ numF m.op = 116 then m.args else []) = m.args; rw [if_pos (.inr h116)]
    rw [e1]
    exact h
  rw [if_neg h116] at h ⊢
  exact h
theorem plain_num (m : M) : numPart (plainM m) = numPart m := by
  have hop : (plainM m).op = m.op := rfl
  unfold numPart
  rw [hop, plain_far]
  by_cases n0 : numF m.op = 0
  · rw [if_pos n0, if_pos n0]
  rw [if_neg n0, if_neg n0]
  by_cases n1 : numF m.op = 110
  · have e1 : (plainM m).args = m.args := by show (if numF m.op = 110 ∨ numF m.op = 116 then m.args else []) = m.args; rw [if_pos (.inl n1)]
    have e2 : (plainM m).imm = m.imm := by show (if numF m.op = 0 ∨ numF m.op = 101 ∨ numF m.op = 116 then 0 else m.imm) = m.imm; rw [if_neg (by rw [n1]; decide)]
    rw [if_pos n1, if_pos n1, e1, e2]
  rw [if_neg n1, if_neg n1]
  by_cases n2 : numF m.op = 101
  · have e2 : (plainM m).e = m.e := by show (if numF m.op = 101 ∨ numF m.op = 98 ∨ m.op = 29 then m.e else 0) = m.e; rw [if_pos (.inl n2)]
    rw [if_pos n2, if_pos n2, e2]
  rw [if_neg n2, if_neg n2]
  by_cases n3 : numF m.op = 116
  · have e1 : (plainM m).args = m.args := by show (if numF m.op = 110 ∨ numF m.op = 116 then m.args else []) = m.args; rw [if_pos (.inr n3)]
    rw [if_pos n3, if_pos n3, e1]
  have e2 : (plainM m).imm = m.imm := by
    show (if numF m.op = 0 ∨ numF m.op = 101 ∨ numF m.op = 116 then 0 else m.imm) = m.imm
    rw [if_neg (by
      rintro (h | h | h)
      · exact n0 h
      · exact n2 h
      · exact n3 h)]
  rw [if_neg n3, if_neg n3, e2]
theorem put_plain {m : M} {s : List UInt8} (h : put m = .ok s) : put (plainM m) = .ok s := by
  obtain ⟨h1, h2, t, h3, rfl⟩ := put_ok h
  rw [put_full _ (plain_shape m h1) (by rw [plain_vals]; exact h2), plain_num, h3, plain_head, plain_vals]

/-! Bytes. -/
theorem byteAt_nat (n : Int) (h : 0 ≤ n ∧ n < 256) : ((byteAt n 0).toNat : Int) = n := by
  unfold byteAt
  rw [UInt8.toNat_ofNat']
  simp
  try omega
theorem byteI_mid (pre post : List UInt8) (b : UInt8) : byteI (pre ++ b :: post) pre.length = (b.toNat : Int) := by
  unfold byteI
  simp [List.getD_eq_getElem?_getD]
theorem slice_mid (pre a post : List UInt8) (k : Nat) (h : a.length = k) : ((pre ++ (a ++ post)).drop pre.length).take k = a := by
  rw [List.drop_left, ← h, List.take_left]
theorem beGo_numB (n : Int) : ∀ (k : Nat) (acc : Int), beGo acc (numB n k) = acc * 256 ^ k + n % 256 ^ k
  | 0, acc => by simp [numB, beGo]; try omega
  | k + 1, acc => by
    have hb : ((byteAt n k).toNat : Int) = n / 256 ^ k % 256 := by
      unfold byteAt
      rw [UInt8.toNat_ofNat']
      have h1 := Int.emod_nonneg (n / 256 ^ k) (show (256 : Int) ≠ 0 by decide)
      have h2 := Int.emod_lt_of_pos (n / 256 ^ k) (show (0 : Int) < 256 by decide)
      omega
    have hm : n % 256 ^ (k + 1) = 256 ^ k * (n / 256 ^ k % 256) + n % 256 ^ k := by
      have h256 : (256 : Int) ^ (k + 1) = 256 ^ k * 256 := Int.pow_succ 256 k
      have hpos : (0 : Int) < 256 ^ k := Int.pow_pos (by decide)
      rw [h256]
      have h3 : n % (256 ^ k * 256) = n - 256 ^ k * 256 * (n / (256 ^ k * 256)) := Int.emod_def _ _
      have h4 : n / (256 ^ k * 256) = n / 256 ^ k / 256 := (Int.ediv_ediv_of_nonneg (Int.le_of_lt hpos)).symm
      have h5 : n / 256 ^ k % 256 = n / 256 ^ k - 256 * (n / 256 ^ k / 256) := Int.emod_def _ _
      have h6 : n % 256 ^ k = n - 256 ^ k * (n / 256 ^ k) := Int.emod_def _ _
      rw [h3, h4, h5, h6, Int.mul_sub, ← Int.mul_assoc]
      omega
    show beGo (256 * acc + ((byteAt n k).toNat : Int)) (numB n k) = _
    rw [beGo_numB n k, hb, hm, Int.add_mul, Int.pow_succ, Int.mul_comm 256 acc, Int.mul_assoc, Int.mul_comm 256 (256 ^ k), Int.mul_comm (n / 256 ^ k % 256)]
    omega
theorem beNum_numB (n : Int) (k : Nat) : beNum (numB n k) = n % 256 ^ k := by
  unfold beNum
  rw [beGo_numB]
  omega

/-! Registers. -/
def setRegs : M → List UInt8 → List Int → M
  | m, x :: l, v :: r => setRegs (setReg m x v) l r
  | m, _, _ => m
theorem getRegs_pairs (post : List UInt8) : ∀ (l : List UInt8) (vals : List Int) (pre : List UInt8) (m : M), l.length = vals.length → vals.all regOk = true →
    getRegs (pre ++ (pairs vals ++ post)) l m pre.length = .ok (setRegs m l vals, pre.length + (pairs vals).length)
  | [], [], pre, m, _, _ => by simp [getRegs, setRegs, pairs]
  | [x], [v], pre, m, _, h => by
    simp only [List.all_cons, List.all_nil, Bool.and_true, regOk_iff] at h
    have hb := byteAt_nat (16 * v) (by omega)
    show getRegs (pre ++ (byteAt (16 * v) 0 :: ([] ++ post))) [x] m pre.length = _
    unfold getRegs
    rw [if_pos (by simp), byteI_mid, hb]
    simp only [setRegs, pairs, List.length_cons, List.length_nil]
    rw [show 16 * v / 16 = v by omega]
  | x :: y :: l, v :: u :: r, pre, m, hl, h => by
    simp only [List.all_cons, Bool.and_eq_true, regOk_iff] at h
    obtain ⟨hv, hu, hr⟩ := h
    have hb := byteAt_nat (16 * v + u) (by omega)
    have ih := getRegs_pairs post l r (pre ++ [byteAt (16 * v + u) 0]) (setReg (setReg m x v) y u) (by simpa using hl) hr
    show getRegs (pre ++ (byteAt (16 * v + u) 0 :: (pairs r ++ post))) (x :: y :: l) m pre.length = _
    unfold getRegs
    rw [if_pos (by simp), byteI_mid, hb, show (16 * v + u) / 16 = v by omega, show (16 * v + u) % 16 = u by omega]
    rw [List.append_assoc, List.length_append] at ih
    refine ih.trans ?_
    simp only [setRegs, pairs, List.length_cons, List.length_nil]
    congr 2
    omega
  | [x], [], pre, m, hl, _ => by simp at hl
  | [], v :: r, pre, m, hl, _ => by simp at hl
  | [x], v :: u :: r, pre, m, hl, _ => by simp at hl
  | x :: y :: l, [], pre, m, hl, _ => by simp at hl
  | x :: y :: l, [v], pre, m, hl, _ => by simp at hl
theorem setRegs_are (m : M) : ∀ (l : List UInt8) (m0 : M), (∀ x ∈ l, isReg x = true) →
    setRegs m0 l (l.map (regVal m)) = ⟨m0.op, if (68 : UInt8) ∈ l then m.d else m0.d, m0.e, if (65 : UInt8) ∈ l then m.a else m0.a, if (66 : UInt8) ∈ l then m.b else m0.b, if (67 : UInt8) ∈ l then m.c else m0.c, m0.imm, m0.args⟩
  | [], m0, _ => by simp [setRegs]
  | x :: l, m0, h => by
    have hx := h x (by simp)
    have ih := setRegs_are m l (setReg m0 x (regVal m x)) (fun y hy => h y (by simp [hy]))
    show setRegs (setReg m0 x (regVal m x)) l (l.map (regVal m)) = _
    rw [ih]
    unfold isReg at hx
    simp only [Bool.or_eq_true, beq_iff_eq] at hx
    rcases hx with ((rfl | rfl) | rfl) | rfl <;> simp [setReg, regVal]

/-! The number. -/
theorem i32_id {n : Int} (h : -2147483648 ≤ n ∧ n ≤ 2147483647) : IntKind.i32.wrap n = n := by
  simp [IntKind.wrap, IntKind.bits, IntKind.signed]
  omega
theorem i32_low {n : Int} (h : -2147483648 ≤ n ∧ n ≤ 2147483647) : IntKind.i32.wrap (n % 256 ^ 4) = n := by
  simp [IntKind.wrap, IntKind.bits, IntKind.signed]
  omega
theorem sgn_back {n e : Int} {x : UInt8} {far : Bool} {t : List UInt8} (h : fitsB n x far e = .ok t) : sgnV x far (beNum t) = n ∧ t.length = (widthF x far).1 := by
  obtain ⟨h1, h2, rfl⟩ := fitsB_ok h
  rw [beNum_numB, numB_length]
  refine ⟨?_, rfl⟩
  unfold sgnV
  have hw : (widthF x far) = (2, -32768, 32767) ∨ (widthF x far) = (4, -2147483648, 2147483647) ∨ (widthF x far) = (1, -128, 127) ∨ (widthF x far) = (1, 0, 31) ∨ (widthF x far) = (1, 0, 255) ∨ (widthF x far) = (2, 0, 16383) ∨ (widthF x far) = (1, 0, 4) ∨ (widthF x far) = (1, 0, 1) ∨ (widthF x far) = (3, -8388608, 8388607) := by
    unfold widthF
    repeat' split
    all_goals simp
  rcases hw with hw | hw | hw | hw | hw | hw | hw | hw | hw <;> (rw [hw] at h1 h2 ⊢; simp at h1 h2 ⊢; first | omega | (split <;> omega))
theorem width_32 (x : UInt8) (far : Bool) : -2147483648 ≤ (widthF x far).2.1 ∧ (widthF x far).2.2 ≤ 2147483647 := by
  unfold widthF
  repeat' split
  all_goals simp
theorem callArgs_counts : ∀ (l : List Int) (n : Nat), counts n l = true → l = (List.range l.length).map fun k : Nat => ((n + k : Nat) : Int)
  | [], n, _ => rfl
  | x :: r, n, h => by
    simp only [counts, Bool.and_eq_true, beq_iff_eq] at h
    have ih := callArgs_counts r (n + 1) (by simpa using h.2)
    rw [List.length_cons, List.range_succ_eq_map, List.map_cons, List.map_map]
    rw [h.1]
    congr 1
    rw [ih, List.length_map, List.length_range]
    apply List.map_congr_left
    intro k _
    simp
    omega
theorem table_back (far : Bool) : ∀ (l : List Int) (t pre post : List UInt8), tableB l = .ok t → (List.range l.length).map (fun k : Nat => sgnV 116 far (beNum (((pre ++ (t ++ post)).drop (pre.length + 3 * k)).take 3))) = l
  | [], t, pre, post, _ => rfl
  | x :: r, t, pre, post, h => by
    simp only [tableB] at h
    cases hx : fitsB x 116 false 61 with
    | error k => rw [hx] at h; cases h
    | ok s =>
      rw [hx] at h
      cases hr : tableB r with
      | error k => rw [hr] at h; cases h
      | ok u =>
        rw [hr] at h
        cases h
        have hfar : widthF 116 far = widthF 116 false := by unfold widthF; simp
        have hx2 : fitsB x 116 far 61 = .ok s := by rw [← hx]; unfold fitsB; rw [hfar]
        obtain ⟨h1, h2⟩ := sgn_back hx2
        have h3 : s.length = 3 := by rw [h2]; unfold widthF; simp
        have ih := table_back far r u (pre ++ s) post hr
        rw [List.length_cons, List.range_succ_eq_map, List.map_cons, List.map_map]
        have e0 : ((pre ++ (s ++ u ++ post)).drop (pre.length + 3 * 0)).take 3 = s := by
          rw [Nat.mul_zero, Nat.add_zero, List.append_assoc]
          exact slice_mid pre s (u ++ post) 3 h3
        rw [e0, h1]
        congr 1
        refine Eq.trans (List.map_congr_left fun k _ => ?_) ih
        simp only [Function.comp_apply, List.append_assoc, List.length_append, h3]
        rw [show pre.length + 3 * (k + 1) = pre.length + 3 + 3 * k by omega]

theorem head_byte (m : M) (h : known m.op = true) : ((headB m).toNat : Int) = m.op + (if farOf m then 128 else 0) := by
  have hr := op_known m.op h
  unfold headB
  apply byteAt_nat
  split <;> omega
theorem far_num (m : M) (h : farOf m = true) : numF m.op = 98 ∧ m.e = 1 := by
  unfold farOf at h
  simp at h
  exact h
/-- What the registers leave for the number. -/
theorem getNum_back (m : M) (t pre post : List UInt8) (m1 : M) (hin : -2147483648 ≤ m.imm ∧ m.imm ≤ 2147483647) (hs : shapeOk m = true) (ht : numPart m = .ok t) (hop : m1.op = m.op) (himm : m1.imm = 0) (hargs : m1.args = []) (he : m1.e = if farOf m then 1 else 0) :
    ∃ m2, getNum (pre ++ (t ++ post)) m1 pre.length (farOf m) = .ok (m2, pre.length + t.length) ∧ fixE m2 = { m1 with e := (plainM m).e, imm := (plainM m).imm, args := (plainM m).args } := by
  obtain ⟨q0, q1, q2, q3, q4, q5, q6, q7⟩ := m1
  simp only [] at hop himm hargs he
  subst hop himm hargs
  have hlen : (pre ++ (t ++ post)).length = pre.length + t.length + post.length := by simp; omega
  have hsl : ∀ k, t.length = k → ((pre ++ (t ++ post)).drop pre.length).take k = t := fun k hk => slice_mid pre t post k hk
  have hsh := hs
  unfold shapeOk at hsh
  have h29 : m.op = 29 → m.e = 1 := fun h => by
    rw [if_neg (by omega), if_pos h] at hsh
    simp at hsh
    exact hsh.2.2
  unfold numPart at ht
  by_cases n0 : numF m.op = 0
  · rw [if_pos n0] at ht
    cases ht
    refine ⟨_, by unfold getNum; rw [if_pos n0]; rfl, ?_⟩
    have hf : farOf m = false := by unfold farOf; rw [n0]; rfl
    have p1 : (plainM m).imm = 0 := if_pos (.inl n0)
    have p2 : (plainM m).args = [] := if_neg (by rw [n0]; decide)
    unfold fixE
    rw [p1, p2]
    by_cases h : m.op = 29
    · have p3 : (plainM m).e = 1 := (if_pos (.inr (.inr h))).trans (h29 h)
      rw [if_pos h, p3]
    · have p3 : (plainM m).e = 0 := if_neg (by rw [n0]; simp [h])
      rw [if_neg h, p3]
      have : q2 = 0 := by rw [he, hf]; rfl
      rw [← this]
  rw [if_neg n0] at ht
  have hn29 : m.op ≠ 29 := fun h => by rw [h] at n0; exact n0 op29.2
  have hfix : ∀ m2 : M, m2.op = m.op → fixE m2 = m2 := fun m2 h => by unfold fixE; rw [h, if_neg hn29]
  by_cases n1 : numF m.op = 110
  · rw [if_pos n1] at ht
    cases ht
    have h28 := num110 n1
    rw [if_pos h28] at hsh
    simp only [Bool.and_eq_true, decide_eq_true_eq, beq_iff_eq] at hsh
    obtain ⟨_, ⟨hc, hl⟩, _⟩ := hsh
    have hf : farOf m = false := by unfold farOf; rw [n1]; rfl
    have p1 : (plainM m).imm = m.imm := if_neg (by rw [n1]; decide)
    have p2 : (plainM m).args = m.args := if_pos (.inl n1)
    have p3 : (plainM m).e = 0 := if_neg (by rw [n1]; simp [hn29])
    have e1 : (numB (m.args.length : Int) 1) = [byteAt (m.args.length : Int) 0] := rfl
    have hb := byteAt_nat (m.args.length : Int) (by omega)
    have hbI : byteI (pre ++ (numB (m.args.length : Int) 1 ++ numB m.imm 4 ++ post)) pre.length = (m.args.length : Int) := by
      rw [e1, List.append_assoc]
      exact (byteI_mid pre _ _).trans hb
    have hi4 : ((pre ++ (numB (m.args.length : Int) 1 ++ numB m.imm 4 ++ post)).drop (pre.length + 1)).take 4 = numB m.imm 4 := by
      have h := slice_mid (pre ++ [byteAt (m.args.length : Int) 0]) (numB m.imm 4) post 4 (numB_length _ _)
      rw [List.length_append] at h
      rw [e1]
      simpa using h
    have hcnt : m.args = callArgs m.args.length := by
      have h := callArgs_counts m.args 0 hc
      refine h.trans ?_
      unfold callArgs
      apply List.map_congr_left
      intro k _
      simp
    refine ⟨⟨m.op, q1, q2, q3, q4, q5, m.imm, m.args⟩, ?_, ?_⟩
    · unfold getNum
      rw [if_neg n0, if_pos n1, hbI, hi4, beNum_numB, i32_low hin, if_neg (by simp [numB_length]; try omega), if_neg (by simp [numB_length]; try omega), Int.toNat_natCast, Nat.min_eq_left (by omega), ← hcnt]
      simp [numB_length]
    · refine (hfix _ (by rfl)).trans ?_
      rw [p1, p2, p3]
      have : q2 = 0 := by rw [he, hf]; rfl
      rw [← this]
  rw [if_neg n1] at ht
  by_cases n2 : numF m.op = 101
  · rw [if_pos n2] at ht
    cases ht
    have h50 := num101 n2
    rw [if_neg (by omega), if_neg (by omega), if_pos (.inr h50)] at hsh
    simp at hsh
    have hf : farOf m = false := by unfold farOf; rw [n2]; rfl
    have p1 : (plainM m).imm = 0 := if_pos (.inr (.inl n2))
    have p2 : (plainM m).args = [] := if_neg (by rw [n2]; decide)
    have p3 : (plainM m).e = m.e := if_pos (.inl n2)
    have hb := byteAt_nat m.e (by rcases hsh.2 with h | h <;> omega)
    refine ⟨⟨m.op, q1, m.e, q3, q4, q5, 0, []⟩, ?_, ?_⟩
    · have hbI : byteI (pre ++ (numB m.e 1 ++ post)) pre.length = m.e := (byteI_mid pre _ _).trans hb
      unfold getNum
      rw [if_neg n0, if_neg n1, if_pos n2, hbI, if_neg (by simp [numB_length]; try omega)]
      simp [numB_length]
    · refine (hfix _ (by rfl)).trans ?_
      rw [p1, p2, p3]
  rw [if_neg n2] at ht
  by_cases n3 : numF m.op = 116
  · rw [if_pos n3] at ht
    cases htt : tableB m.args with
    | error k => rw [htt] at ht; cases ht
    | ok u =>
      rw [htt] at ht
      cases ht
      have hn28 : m.op ≠ 28 := fun h => by rw [h] at n1; exact n1 op28.2
      have hn50 : m.op ≠ 50 := fun h => by rw [h] at n2; exact n2 op50
      rw [if_neg hn28, if_neg hn29, if_neg (by rw [n3]; simp [hn50]), if_pos n3] at hsh
      simp only [Bool.and_eq_true, decide_eq_true_eq] at hsh
      obtain ⟨_, hl2, hl65⟩ := hsh
      have hf : farOf m = false := by unfold farOf; rw [n3]; rfl
      have p1 : (plainM m).imm = 0 := if_pos (.inr (.inr n3))
      have p2 : (plainM m).args = m.args := if_pos (.inr n3)
      have p3 : (plainM m).e = 0 := if_neg (by rw [n3]; simp [hn29])
      have e1 : (numB (m.args.length : Int) 1) = [byteAt (m.args.length : Int) 0] := rfl
      have hb := byteAt_nat (m.args.length : Int) (by omega)
      have hbI : byteI (pre ++ (numB (m.args.length : Int) 1 ++ u ++ post)) pre.length = (m.args.length : Int) := by
        rw [e1, List.append_assoc]
        exact (byteI_mid pre _ _).trans hb
      have hul := tableB_len _ _ htt
      have htab : tableArgs (pre ++ (numB (m.args.length : Int) 1 ++ u ++ post)) pre.length (farOf m) m.args.length = m.args := by
        have h := table_back (farOf m) m.args u (pre ++ [byteAt (m.args.length : Int) 0]) post htt
        rw [List.length_append] at h
        rw [e1]
        unfold tableArgs
        simpa using h
      refine ⟨⟨m.op, q1, q2, q3, q4, q5, 0, m.args⟩, ?_, ?_⟩
      · unfold getNum
        rw [if_neg n0, if_neg n1, if_neg n2, if_pos n3, hbI, Int.toNat_natCast, htab, if_neg (by simp [numB_length]; try omega), if_neg (by simp; try omega), if_neg (by simp [numB_length, hul]; try omega)]
        simp [numB_length, hul]
        omega
      · refine (hfix _ (by rfl)).trans ?_
        rw [p1, p2, p3]
        have : q2 = 0 := by rw [he, hf]; rfl
        rw [← this]
  rw [if_neg n3] at ht
  have hfit : ∃ k, fitsB m.imm (numF m.op) (farOf m) k = .ok t := by
    by_cases n4 : numF m.op = 98
    · rw [if_pos n4] at ht
      exact ⟨61, by rw [n4]; exact ht⟩
    · rw [if_neg n4] at ht
      exact ⟨32, ht⟩
  obtain ⟨k, hfit⟩ := hfit
  obtain ⟨hs1, hs2⟩ := sgn_back hfit
  have p1 : (plainM m).imm = m.imm := if_neg (by
    rintro (h | h | h)
    · exact n0 h
    · exact n2 h
    · exact n3 h)
  have p2 : (plainM m).args = [] := if_neg (by
    rintro (h | h)
    · exact n1 h
    · exact n3 h)
  have p3 : (plainM m).e = q2 := by
    rw [he]
    by_cases n4 : numF m.op = 98
    · have hn28 : m.op ≠ 28 := fun h => by rw [h] at n1; exact n1 op28.2
      rw [if_neg hn28, if_neg hn29, if_pos (.inl n4)] at hsh
      simp at hsh
      refine (if_pos (.inr (.inl n4))).trans ?_
      unfold farOf
      rw [n4]
      rcases hsh.2 with h | h <;> rw [h] <;> rfl
    · refine (if_neg (by
        rintro (h | h | h)
        · exact n2 h
        · exact n4 h
        · exact hn29 h)).trans ?_
      unfold farOf
      rw [decide_eq_false n4]
      rfl
  refine ⟨⟨m.op, q1, q2, q3, q4, q5, m.imm, []⟩, ?_, ?_⟩
  · unfold getNum
    rw [if_neg n0, if_neg n1, if_neg n2, if_neg n3]
    by_cases n4 : numF m.op = 119
    · have hw : (widthF (numF m.op) (farOf m)).1 = 4 := by rw [n4]; unfold widthF; simp
      have ht2 := (fitsB_ok hfit).2.2
      rw [hw] at hs2 ht2
      rw [if_pos n4, hsl 4 hs2, if_neg (by simp; try omega), hs2]
      rw [ht2, beNum_numB, i32_low hin]
    · rw [if_neg n4, ← hs2, hsl _ rfl, if_neg (by simp; try omega), hs1, i32_id hin]
  · refine (hfix _ (by rfl)).trans ?_
    rw [p1, p2, p3]

/-- P18.6: what was put is got again, whatever stands behind it; what its Op has not is 0. -/
theorem get_put {m : M} {s : List UInt8} (hin : -2147483648 ≤ m.imm ∧ m.imm ≤ 2147483647) (h : put m = .ok s) (r : List UInt8) : getM (s ++ r) = .ok (plainM m, s.length) := by
  have hpp := put_plain h
  obtain ⟨h1, h2, t, h3, rfl⟩ := put_ok h
  have hk : known m.op = true := by
    unfold shapeOk at h1
    simp only [Bool.and_eq_true] at h1
    exact h1.1
  have hr := op_known m.op hk
  have hhd := head_byte m hk
  have hb0 : byteI (headB m :: (pairs (valsM m) ++ t) ++ r) 0 = m.op + (if farOf m then 128 else 0) := hhd
  have hop : opB (headB m :: (pairs (valsM m) ++ t) ++ r) = m.op := by
    unfold opB
    rw [hb0]
    split <;> omega
  have hfar : farB (headB m :: (pairs (valsM m) ++ t) ++ r) = farOf m := by
    unfold farB
    rw [hb0]
    cases farOf m <;> simp <;> omega
  have hst : startM (headB m :: (pairs (valsM m) ++ t) ++ r) = ⟨m.op, 0, if farOf m then 1 else 0, 0, 0, 0, 0, []⟩ := by unfold startM; rw [hop, hfar]
  have hgr := getRegs_pairs (t ++ r) (regsF m.op) (valsM m) [headB m] ⟨m.op, 0, if farOf m then 1 else 0, 0, 0, 0, 0, []⟩ (valsM_length m).symm h2
  have hsr := setRegs_are m (regsF m.op) ⟨m.op, 0, if farOf m then 1 else 0, 0, 0, 0, 0, []⟩ (regs_are m.op)
  have hgn := getNum_back m t (headB m :: pairs (valsM m)) r ⟨m.op, if (68 : UInt8) ∈ regsF m.op then m.d else 0, if farOf m then 1 else 0, if (65 : UInt8) ∈ regsF m.op then m.a else 0, if (66 : UInt8) ∈ regsF m.op then m.b else 0, if (67 : UInt8) ∈ regsF m.op then m.c else 0, 0, []⟩ hin h1 h3 rfl rfl rfl rfl
  obtain ⟨m2, hg2, hf2⟩ := hgn
  have eapp : headB m :: (pairs (valsM m) ++ t) ++ r = [headB m] ++ (pairs (valsM m) ++ (t ++ r)) := by simp
  have eapp2 : headB m :: (pairs (valsM m) ++ t) ++ r = (headB m :: pairs (valsM m)) ++ (t ++ r) := by simp
  unfold getM getRaw
  rw [hop, hfar, hst, if_neg (by simp), if_neg (by
    rw [hk]
    cases hf : farOf m
    · simp
    · simp [(far_num m hf).1])]
  rw [show valsM m = (regsF m.op).map (regVal m) from rfl] at hgr
  rw [hsr] at hgr
  rw [show (regsF m.op).map (regVal m) = valsM m from rfl] at hgr
  rw [show [headB m].length + (pairs (valsM m)).length = (headB m :: pairs (valsM m)).length by simp; omega, show [headB m].length = 1 from rfl, ← eapp] at hgr
  dsimp only at hgr hf2
  rw [hgr]
  dsimp only
  rw [eapp2, hg2]
  dsimp only
  rw [hf2]
  have hplain : ({ op := m.op, d := if (68 : UInt8) ∈ regsF m.op then m.d else 0, e := (plainM m).e, a := if (65 : UInt8) ∈ regsF m.op then m.a else 0, b := if (66 : UInt8) ∈ regsF m.op then m.b else 0, c := if (67 : UInt8) ∈ regsF m.op then m.c else 0, imm := (plainM m).imm, args := (plainM m).args } : M) = plainM m := rfl
  rw [hplain, hpp]
  simp only []
  rw [if_pos]
  · simp
    omega
  · rw [show (headB m :: pairs (valsM m)).length + t.length = (headB m :: (pairs (valsM m) ++ t)).length by simp; omega, ← eapp2]
    exact List.take_left.symm
/-- P18.6: nor do one's bytes begin with another's. -/
theorem put_prefix {m k : M} {s r : List UInt8} (hm : -2147483648 ≤ m.imm ∧ m.imm ≤ 2147483647) (hk : -2147483648 ≤ k.imm ∧ k.imm ≤ 2147483647) (h1 : put m = .ok s) (h2 : put k = .ok (s ++ r)) : plainM m = plainM k := by
  have a := get_put hm h1 r
  have b := get_put hk h2 []
  rw [List.append_nil, a] at b
  injection b with b
  exact congrArg Prod.fst b
theorem put_same {m k : M} {s t : List UInt8} (h1 : put m = .ok s) (h2 : put k = .ok t) (h : plainM m = plainM k) : s = t := by
  have a := put_plain h1
  have b := put_plain h2
  rw [h, b] at a
  injection a with a
  exact a.symm
end
section
open Go

theorem has_reg (op : Int) : decide ((68 : UInt8) ∈ fieldsOf op) = decide ((68 : UInt8) ∈ regsF op) ∧ decide ((65 : UInt8) ∈ fieldsOf op) = decide ((65 : UInt8) ∈ regsF op) := by
  have h1 := info_all (fun _ _ f _ => decide ((68 : UInt8) ∈ f) == decide ((68 : UInt8) ∈ (splitF f).1)) (fun _ => by decide) (by decide +kernel) op
  have h2 := info_all (fun _ _ f _ => decide ((65 : UInt8) ∈ f) == decide ((65 : UInt8) ∈ (splitF f).1)) (fun _ => by decide) (by decide +kernel) op
  exact ⟨eq_of_beq h1, eq_of_beq h2⟩

/-- A register set: D (68) or A (65). -/
def setR (m : M) (x : UInt8) (r : Int) : M := if x = 68 then { m with d := r } else { m with a := r }
theorem setR_op (m : M) (x : UInt8) (r : Int) : (setR m x r).op = m.op := by unfold setR; split <;> rfl
theorem setR_imm (m : M) (x : UInt8) (r : Int) : (setR m x r).imm = m.imm := by unfold setR; split <;> rfl
theorem setR_shape (m : M) (x : UInt8) (r : Int) (h28 : m.op ≠ 28) (h29 : m.op ≠ 29) : shapeOk (setR m x r) = shapeOk m := by
  have key : ∀ m' : M, m'.op = m.op → m'.e = m.e → m'.args = m.args → shapeOk m' = shapeOk m := by
    intro m' h1 h2 h3
    unfold shapeOk
    rw [h1, h2, h3, if_neg h28, if_neg h29, if_neg h28, if_neg h29]
  unfold setR
  split
  · exact key _ rfl rfl rfl
  · exact key _ rfl rfl rfl
theorem setR_num (m : M) (x : UInt8) (r : Int) : numPart (setR m x r) = numPart m := by unfold setR; split <;> rfl
theorem setR_head (m : M) (x : UInt8) (r : Int) : headB (setR m x r) = headB m := by unfold setR; split <;> rfl
theorem setR_val (m : M) (x y : UInt8) (r : Int) (hx : x = 68 ∨ x = 65) : regVal (setR m x r) y = if y = x then r else regVal m y := by
  rcases hx with rfl | rfl
  · have e : setR m 68 r = { m with d := r } := by unfold setR; rw [if_pos rfl]
    rw [e]
    unfold regVal
    by_cases h1 : y = 68
    · rw [if_pos h1, if_pos h1]
    · rw [if_neg h1, if_neg h1, if_neg h1]
  · have e : setR m 65 r = { m with a := r } := by unfold setR; rw [if_neg (by decide)]
    rw [e]
    unfold regVal
    by_cases h1 : y = 68
    · have h2 : ¬ y = 65 := by rw [h1]; decide
      rw [if_pos h1, if_neg h2, if_pos h1]
    · by_cases h2 : y = 65
      · rw [if_neg h1, if_pos h2, if_pos h2]
      · rw [if_neg h1, if_neg h2, if_neg h2, if_neg h1, if_neg h2]
theorem setR_vals_no (m : M) (x : UInt8) (r : Int) (hx : x = 68 ∨ x = 65) (h : x ∉ regsF m.op) : valsM (setR m x r) = valsM m := by
  unfold valsM
  rw [setR_op]
  apply List.map_congr_left
  intro y hy
  rw [setR_val m x y r hx]
  refine if_neg ?_
  intro e
  rw [e] at hy
  exact h hy
/-- A register that the Op has not plays no part. -/
theorem put_not {m : M} {x : UInt8} {s : List UInt8} (r : Int) (hx : x = 68 ∨ x = 65) (h28 : m.op ≠ 28) (h29 : m.op ≠ 29) (hp : put m = .ok s) (h : x ∉ regsF m.op) : put (setR m x r) = .ok s := by
  obtain ⟨h1, h2, t, h3, rfl⟩ := put_ok hp
  rw [put_full _ (by rw [setR_shape m x r h28 h29]; exact h1) (by rw [setR_vals_no m x r hx h]; exact h2), setR_num, h3, setR_head, setR_vals_no m x r hx h]
theorem put_may {m : M} {x : UInt8} {s : List UInt8} (r : Int) (hx : x = 68 ∨ x = 65) (hin : -2147483648 ≤ m.imm ∧ m.imm ≤ 2147483647) (h28 : m.op ≠ 28) (h29 : m.op ≠ 29) (hp : put m = .ok s) (h : x ∈ regsF m.op) (hr : 0 ≤ r ∧ r < 16) :
    ∃ t, put (setR m x r) = .ok t ∧ t.length = s.length ∧ (t = s ↔ r = regVal m x) := by
  obtain ⟨h1, h2, t, h3, hs⟩ := put_ok hp
  have hall : (valsM (setR m x r)).all regOk = true := by
    rw [List.all_eq_true] at h2 ⊢
    intro v hv
    unfold valsM at hv
    rw [setR_op] at hv
    obtain ⟨y, hy, rfl⟩ := List.mem_map.1 hv
    rw [setR_val m x y r hx]
    split
    · rw [regOk_iff]; exact hr
    · exact h2 _ (List.mem_map.2 ⟨y, hy, rfl⟩)
  have hput : put (setR m x r) = .ok (headB m :: (pairs (valsM (setR m x r)) ++ t)) := by
    rw [put_full _ (by rw [setR_shape m x r h28 h29]; exact h1) hall, setR_num, h3, setR_head]
  refine ⟨_, hput, ?_, ?_⟩
  · rw [hs]
    simp [pairs_length, valsM_length, setR_op]
  · constructor
    · intro e
      have hq := put_prefix (r := []) (by rw [setR_imm]; exact hin) hin hput (by rw [List.append_nil, e]; exact hp)
      have hv := plain_vals (setR m x r)
      rw [hq, plain_vals] at hv
      unfold valsM at hv
      rw [setR_op] at hv
      have hxx := List.map_inj_left.1 hv x h
      rw [setR_val m x x r hx, if_pos rfl] at hxx
      exact hxx.symm
    · intro e
      have : setR m x r = m := by
        rcases hx with rfl | rfl
        · have e : r = m.d := e
          unfold setR
          rw [if_pos rfl, e]
        · have e : r = m.a := e
          unfold setR
          rw [if_neg (by decide), e]
      rw [this] at hput ⊢
      rw [hp] at hput
      injection hput with hput
      exact hput.symm
theorem put_bad {m : M} {x : UInt8} {s : List UInt8} (r : Int) (hx : x = 68 ∨ x = 65) (h28 : m.op ≠ 28) (h29 : m.op ≠ 29) (hp : put m = .ok s) (h : x ∈ regsF m.op) (hr : ¬ (0 ≤ r ∧ r < 16)) : put (setR m x r) = .error 31 := by
  obtain ⟨h1, _, _, _, _⟩ := put_ok hp
  unfold put
  rw [if_neg (by rw [setR_shape m x r h28 h29, h1]; simp)]
  refine if_pos ?_
  rw [← Bool.not_eq_true, List.all_eq_true]
  intro hall
  have := hall r (List.mem_map.2 ⟨x, by rw [setR_op]; exact h, by rw [setR_val m x x r hx, if_pos rfl]⟩)
  rw [regOk_iff] at this
  exact hr this
end
section
open Go Go.RowKit Go.ChangeMaps Go.Proofs.YtmoplcchiadlpaaDoorW.PrintWords

theorem putE_err {m : M} (h : ¬ putE m = 0) : putS m = [] := by
  unfold putE at h
  unfold putS
  cases hp : put m with
  | ok s => rw [hp] at h; exact absurd rfl h
  | error k => rfl
theorem put_of {m : M} (h : putE m = 0) : put m = .ok (putS m) := by
  unfold putE at h
  unfold putS
  cases hp : put m with
  | ok s => rfl
  | error k =>
    rw [hp] at h
    have h : k = 0 := h
    rcases put_err hp with h1 | h1 | h1 | h1 <;> omega
theorem putS_short {m : M} (h : putE m = 0) : (putS m).length ≤ 300 := by
  have hp := put_of h
  have hs := put_size hp
  obtain ⟨h1, _, _, _, _⟩ := put_ok hp
  have hr := regs_short m.op
  have hw := width_le (numF m.op) (farOf m)
  unfold sizeM at hs
  rw [if_neg (by rw [h1]; simp)] at hs
  by_cases n0 : numF m.op = 0
  · rw [if_pos n0] at hs; omega
  by_cases n1 : numF m.op = 110
  · rw [if_neg n0, if_pos n1] at hs; omega
  by_cases n2 : numF m.op = 116
  · have := shape_116 m h1 n2
    rw [if_neg n0, if_neg n1, if_pos n2] at hs; omega
  · rw [if_neg n0, if_neg n1, if_neg n2] at hs; omega
theorem get_back {m : M} (hin : -2147483648 ≤ m.imm ∧ m.imm ≤ 2147483647) (h : putE m = 0) (r : List UInt8) : getI (putS m ++ r) = plainM m ∧ getN (putS m ++ r) = ((putS m).length : Int) ∧ getE (putS m ++ r) = 0 := by
  have hg := get_put hin (put_of h) r
  unfold getI getN getE
  rw [hg]
  exact ⟨rfl, rfl, rfl⟩
theorem same_refl (m : M) : sameM m m = true := (sameM_iff m m).2 rfl
end
end Go.Proofs.YtmoplcchiadlpaaDoor.Jc
end
