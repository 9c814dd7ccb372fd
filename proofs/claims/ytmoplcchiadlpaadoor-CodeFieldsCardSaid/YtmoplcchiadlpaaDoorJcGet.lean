/- code.Get: which instruction bytes begin with, or what is wrong. -/
import Derived.Test.YtmoplcchiadlpaaDoorJcGet1
set_option linter.unusedVariables false
set_option linter.unusedSimpArgs false
namespace Go.Proofs.YtmoplcchiadlpaaDoor.Jc
open Go Go.RowKit Go.ChangeMaps Go.Proofs.YtmoplcchiadlpaaDoorW.PrintWords

def getI (s : List UInt8) : M := match getM s with | .ok r => r.1 | .error _ => zeroM
def getN (s : List UInt8) : Int := match getM s with | .ok r => (r.2 : Int) | .error _ => 0
def getE (s : List UInt8) : Int := match getM s with | .ok _ => 0 | .error k => k

theorem getRegs_err (s : List UInt8) {k : Int} : ∀ (l : List UInt8) (m : M) (p : Nat), getRegs s l m p = .error k → k = 62
  | [], m, p, h => by cases h
  | [x], m, p, h => by
    unfold getRegs at h
    split at h
    · cases h
    · cases h; rfl
  | x :: y :: r, m, p, h => by
    unfold getRegs at h
    split at h
    · exact getRegs_err s r _ _ h
    · cases h; rfl
theorem getNum_err {s : List UInt8} {m : M} {p : Nat} {far : Bool} {k : Int} (h : getNum s m p far = .error k) : k = 62 ∨ k = 60 := by
  unfold getNum at h
  repeat' split at h
  all_goals first | (cases h; done) | (cases h; exact .inl rfl) | (cases h; exact .inr rfl)
theorem getM_err {s : List UInt8} {k : Int} (h : getM s = .error k) : k = 62 ∨ k = 60 := by
  unfold getM at h
  cases hr : getRaw s with
  | error e =>
    rw [hr] at h
    cases h
    unfold getRaw at hr
    split at hr
    · cases hr; exact .inl rfl
    split at hr
    · cases hr; exact .inr rfl
    cases hq : getRegs s (regsF (opB s)) (startM s) 1 with
    | error e2 =>
      rw [hq] at hr
      cases hr
      exact .inl (getRegs_err s _ _ _ hq)
    | ok q =>
      rw [hq] at hr
      simp only [] at hr
      cases hn : getNum s q.1 q.2 (farB s) with
      | error e3 =>
        rw [hn] at hr
        cases hr
        exact getNum_err hn
      | ok r => rw [hn] at hr; cases hr
  | ok q =>
    rw [hr] at h
    simp only [] at h
    cases hp : put q.1 with
    | error e => rw [hp] at h; cases h; exact .inr rfl
    | ok t =>
      rw [hp] at h
      simp only [] at h
      split at h
      · cases h
      · cases h; exact .inr rfl

theorem kept2_low {w0 w w1 : World} {b1 b2 : Nat} (h0 : Below w0.heap.size w0 w) (h : Kept2 w w1 b1 b2) (h1 : w0.heap.size ≤ b1) (h2 : w0.heap.size ≤ b2) : Below w0.heap.size w0 w1 :=
  h0.trans ⟨h.os, h.tape, h.output, h.size, fun i hi => by
    have := h0.size
    exact h.block i (by omega) (by omega) (by omega)⟩
theorem addr_add_block (a : Addr) (j : Nat) : (a.add j).block = a.block := by
  unfold Addr.add
  split <;> rfl
theorem ArgsIn.set {w : World} {m : M} {a : Option Addr} {c b : Nat} (h : ArgsIn w m a c) (hne : ∀ ad, a = some ad → ad.block ≠ b) (i : Nat) (v : Value) : ArgsIn (w.setCell ⟨b, i, none⟩ v) m a c := by
  refine ⟨⟨h.reads.1, h.reads.2.1, fun hn => ?_⟩, h.cap⟩
  obtain ⟨ad, ha, hc⟩ := h.reads.2.2 hn
  refine ⟨ad, ha, fun j hj => ?_⟩
  rw [← hc j hj]
  apply World.cell?_of_block
  rw [addr_add_block]
  have := hne ad ha
  simp [World.setCell, Array.getElem?_modify, Ne.symm this]
theorem ArgsIn.drew {w : World} {m : M} {a : Option Addr} {c : Nat} (h : ArgsIn w m a c) : ArgsIn w.drew m a c := ⟨h.reads, h.cap⟩
theorem callGet1 (cap : Array Value) (w : World) : (callFunc 58 cap).run Tryd.prog w = .ok (.enter 58 cap) w := by
  kernel_rfl

/-- What Get hands back. -/
def GotBack (s : List UInt8) (w : World) (e : Ending) (w' : World) : Prop :=
  ∃ a c, e = .returned (.tuple #[.agg (cellsM (getI s) a c), .int .i64 (getN s), .int .i64 (getE s)]) ∧ Below w.heap.size w w' ∧ ArgsIn w' (getI s) a c ∧ ∀ ad, a = some ad → w.heap.size ≤ ad.block

set_option maxRecDepth 100000 in
set_option maxHeartbeats 1000000 in
theorem get_any (s : List UInt8) (hlen : s.length ≤ 1000000000) (w : World) (htab : Lib.TabIs Tryd.prog w "strings.asciiSpace" .u8 Lib.asciiSpaceTab) :
    Calls Tryd.prog 24 #[.string (bs s)] w (GotBack s w) := by
  have HT := Lib.hid htab
  clear htab
  have hcall := Lib.hid callGet1
  go_enter Tryd.func24, Tryd.ntmps24
  go_wp2_with fail
  have hz1 := alloc_size w (.cells #[.string (bs s)] 9)
  have hp1 := alloc_at w (.cells #[.string (bs s)] 9)
  have hb1 := below_alloc (Below.refl w.heap.size w) (.cells #[.string (bs s)] 9)
  generalize w.alloc (.cells #[.string (bs s)] 9) = V1 at hz1 hp1 hb1 ⊢
  have hz2 := alloc_size V1 (.cells #[.int .i64 0, .int .i64 0, .int .i64 0, .int .i64 0, .int .i64 0, .int .i64 0, .int .i32 0, .slice none 0 0] 24)
  have hr2 := alloc_at V1 (.cells #[.int .i64 0, .int .i64 0, .int .i64 0, .int .i64 0, .int .i64 0, .int .i64 0, .int .i32 0, .slice none 0 0] 24)
  have hp2 := alloc_old (o := .cells #[.int .i64 0, .int .i64 0, .int .i64 0, .int .i64 0, .int .i64 0, .int .i64 0, .int .i32 0, .slice none 0 0] 24) hp1
  have hb2 := below_alloc hb1 (.cells #[.int .i64 0, .int .i64 0, .int .i64 0, .int .i64 0, .int .i64 0, .int .i64 0, .int .i32 0, .slice none 0 0] 24)
  generalize V1.alloc (.cells #[.int .i64 0, .int .i64 0, .int .i64 0, .int .i64 0, .int .i64 0, .int .i64 0, .int .i32 0, .slice none 0 0] 24) = V2 at hz2 hr2 hp2 hb2 ⊢
  have hz3 := alloc_size V2 (.cells #[.int .i64 0, .int .i64 0, .int .i64 0, .int .i64 0, .int .i64 0, .int .i64 0, .int .i32 0, .slice none 0 0] 24)
  have hi3 := alloc_at V2 (.cells #[.int .i64 0, .int .i64 0, .int .i64 0, .int .i64 0, .int .i64 0, .int .i64 0, .int .i32 0, .slice none 0 0] 24)
  have hr3 := alloc_old (o := .cells #[.int .i64 0, .int .i64 0, .int .i64 0, .int .i64 0, .int .i64 0, .int .i64 0, .int .i32 0, .slice none 0 0] 24) hr2
  have hp3 := alloc_old (o := .cells #[.int .i64 0, .int .i64 0, .int .i64 0, .int .i64 0, .int .i64 0, .int .i64 0, .int .i32 0, .slice none 0 0] 24) hp2
  have hb3 := below_alloc hb2 (.cells #[.int .i64 0, .int .i64 0, .int .i64 0, .int .i64 0, .int .i64 0, .int .i64 0, .int .i32 0, .slice none 0 0] 24)
  generalize V2.alloc (.cells #[.int .i64 0, .int .i64 0, .int .i64 0, .int .i64 0, .int .i64 0, .int .i64 0, .int .i32 0, .slice none 0 0] 24) = V3 at hz3 hi3 hr3 hp3 hb3 ⊢
  have hz4 := alloc_size V3 (.cells #[.int .i64 0] 3)
  have hq4 := alloc_at V3 (.cells #[.int .i64 0] 3)
  have hi4 := alloc_old (o := .cells #[.int .i64 0] 3) hi3
  have hr4 := alloc_old (o := .cells #[.int .i64 0] 3) hr3
  have hp4 := alloc_old (o := .cells #[.int .i64 0] 3) hp3
  have hb4 := below_alloc hb3 (.cells #[.int .i64 0] 3)
  generalize V3.alloc (.cells #[.int .i64 0] 3) = V4 at hz4 hq4 hi4 hr4 hp4 hb4 ⊢
  rw [hz1] at hr4 hz2
  rw [hz2] at hi4 hz3
  rw [hz3] at hq4 hz4
  have HB4 := Lib.hid hb4
  have HZ4 := Lib.hid hz4
  have HP4 := Lib.hid hp4
  have HR4 := Lib.hid hr4
  have HI4 := Lib.hid hi4
  have HQ4 := Lib.hid hq4
  clear hz1 hz2 hz3 hz4 hp1 hp2 hp3 hp4 hb1 hb2 hb3 hb4 hr2 hr3 hr4 hi3 hi4 hq4
  have hmet : Calls Tryd.prog 30 #[.func (.func 58) #[] #[.pointer (some ⟨w.heap.size, 0, none⟩), .pointer (some ⟨w.heap.size + 1 + 1 + 1, 0, none⟩), .pointer (some ⟨w.heap.size + 1 + 1, 0, none⟩)]] V4
      fun e w' => e = .returned (.int .i64 (getE s)) ∧ Below w.heap.size w w' ∧ w'.heap[w.heap.size + 1]? = some (.cells (cellsM zeroM none 0) 24 (0, 0)) ∧
        (getE s = 0 → ∃ a c, w'.heap[w.heap.size + 1 + 1]? = some (.cells (cellsM (getI s) a c) 24 (0, 0)) ∧ w'.heap[w.heap.size + 1 + 1 + 1]? = some (.cells #[.int .i64 (getN s)] 3 (0, 0)) ∧ ArgsIn w' (getI s) a c ∧ ∀ ad, a = some ad → w.heap.size + 4 ≤ ad.block) := by
    have hz := HZ4.out
    refine caught_any _ _ V4 _ (fun w => callGet1 _ w) ?_
    have hb5 := below_alloc HB4.out (.cells #[.int .i64 0] 27)
    refine (get1_any s hlen w.heap.size (w.heap.size + 1 + 1 + 1) (w.heap.size + 1 + 1) (by omega) (by omega) (by omega) (V4.alloc (.cells #[.int .i64 0] 27)) (alloc_old HP4.out) (alloc_old HQ4.out) (alloc_old HI4.out)
      (fun W hW => tabIs_below HT.out (kept2_low hb5 hW (by omega) (by omega)))).mono ?_
    rintro e w' ⟨hk, hp⟩
    have hz5 := alloc_size V4 (.cells #[.int .i64 0] 27)
    have hE : w'.heap[V4.heap.size]? = some (.cells #[.int .i64 0] 27 (0, 0)) := hk.at (alloc_at _ _) (by omega) (by omega)
    have hR : w'.heap[w.heap.size + 1]? = some (.cells (cellsM zeroM none 0) 24 (0, 0)) := hk.at (alloc_old HR4.out) (by omega) (by omega)
    have hB2 : Below w.heap.size w w' := kept2_low hb5 hk (by omega) (by omega)
    refine ⟨(cell_blk hE 0).trans rfl, froz_blk hE 0, ?_⟩
    unfold getE getI getN
    cases hg : getM s with
    | ok r =>
      rw [hg] at hp
      obtain ⟨he, ⟨a, c, h1, h2, h3⟩, h4⟩ := hp
      refine .inl ⟨he, rfl, below_set hB2 (by omega) _ _, set_other hR (by omega) _ _, fun _ => ⟨a, c, set_other h1 (by omega) _ _, set_other h4 (by omega) _ _, h2.set (fun ad ha => by have := h3 ad ha; omega) _ _, fun ad ha => by have := h3 ad ha; omega⟩⟩
    | error k =>
      rw [hg] at hp
      refine .inr ⟨k, hp, rfl, below_alloc (below_set hB2 (by omega) _ _) _, alloc_old (set_other hR (by omega) _ _), fun h0 => ?_⟩
      have h0 : k = 0 := h0
      rcases getM_err hg with h | h <;> omega
  refine hmet.mono ?_
  rintro e w1 ⟨rfl, hB, hR, hs⟩
  have HB := Lib.hid hB
  have HR := Lib.hid hR
  have HS := Lib.hid hs
  have hR2 := hR
  unfold cellsM at hR2
  have hz := HB.out.size
  have zr : ∀ i, w1.frozen? ⟨w.heap.size + 1, i, none⟩ = false := fun i => froz_blk hR2 i
  have r0 := cell_blk hR2 0
  have r1 := cell_blk hR2 1
  have r2 := cell_blk hR2 2
  have r3 := cell_blk hR2 3
  have r4 := cell_blk hR2 4
  have r5 := cell_blk hR2 5
  have r6 := cell_blk hR2 6
  have r7 := cell_blk hR2 7
  clear hmet hB hR hs hR2 HP4 HQ4 HI4 HR4 HB4 HZ4
  cases hg : getM s with
  | error k =>
    have he : getE s = k := by unfold getE; rw [hg]
    have hI : getI s = zeroM := by unfold getI; rw [hg]
    have hN : getN s = 0 := by unfold getN; rw [hg]
    have hk : (k == 0) = false := by
      rw [beq_eq_false_iff_ne]
      rcases getM_err hg with h | h <;> omega
    have HE := Lib.hid he
    have HI := Lib.hid hI
    have HN := Lib.hid hN
    rw [HE.out]
    clear he hg hI hN
    go_wp2_with fail
    have hlt := blk_lt' HR.out
    refine bodyPost_ret (v := .tuple #[.agg #[.int .i64 0, .int .i64 0, .int .i64 0, .int .i64 0, .int .i64 0, .int .i64 0, .int .i32 0, .slice none 0 0], .int .i64 0, .int .i64 k]) (by simp [results, Tryd.results24, go_sem, r0, r1, r2, r3, r4, r5, r6, r7]) rfl ?_
    refine ⟨none, 0, ?_, ?_, args_none (by rw [HI.out]; rfl) _, fun ad h => by cases h⟩
    · rw [HI.out, HN.out, HE.out]; rfl
    · exact below_set (below_set (below_set (below_set (below_set (below_set (below_set (below_set HB.out (by omega) _ _) (by omega) _ _) (by omega) _ _) (by omega) _ _) (by omega) _ _) (by omega) _ _) (by omega) _ _) (by omega) _ _
  | ok r =>
    have he : getE s = 0 := by unfold getE; rw [hg]
    have HE := Lib.hid he
    rw [HE.out]
    obtain ⟨a, c, hi, hq, har, hfr⟩ := HS.out he
    unfold cellsM at hi
    have d0 := cell_blk hi 0
    have d1 := cell_blk hi 1
    have d2 := cell_blk hi 2
    have d3 := cell_blk hi 3
    have d4 := cell_blk hi 4
    have d5 := cell_blk hi 5
    have d6 := cell_blk hi 6
    have d7 := cell_blk hi 7
    have q0 := cell_blk hq 0
    have HI := Lib.hid hi
    have HA := Lib.hid har
    have HF := Lib.hid hfr
    clear he hg hi hq har hfr
    go_wp2_with fail
    go_region
    all_goals
      go_wp2_with fail
      refine bodyPost_ret (v := .tuple #[.agg #[.int .i64 (getI s).op, .int .i64 (getI s).d, .int .i64 (getI s).e, .int .i64 (getI s).a, .int .i64 (getI s).b, .int .i64 (getI s).c, .int .i32 (getI s).imm, .slice a (getI s).args.length c], .int .i64 (getN s), .int .i64 0]) (by simp [results, Tryd.results24, go_sem, r0, r1, r2, r3, r4, r5, r6, r7]) rfl ?_
      have hne : ∀ ad, a = some ad → ad.block ≠ w.heap.size + 1 := fun ad ha => by have := HF.out ad ha; omega
      refine ⟨a, c, ?_, ?_, ?_, fun ad ha => by have := HF.out ad ha; omega⟩
      · rw [HE.out]; rfl
      · exact below_drewR (below_set (below_set (below_set (below_set (below_set (below_set (below_set (below_set HB.out (by omega) _ _) (by omega) _ _) (by omega) _ _) (by omega) _ _) (by omega) _ _) (by omega) _ _) (by omega) _ _) (by omega) _ _)
      · refine ArgsIn.drew ?_
        refine ArgsIn.set ?_ hne _ _
        refine ArgsIn.set ?_ hne _ _
        refine ArgsIn.set ?_ hne _ _
        refine ArgsIn.set ?_ hne _ _
        refine ArgsIn.set ?_ hne _ _
        refine ArgsIn.set ?_ hne _ _
        refine ArgsIn.set ?_ hne _ _
        refine ArgsIn.set ?_ hne _ _
        exact HA.out
end Go.Proofs.YtmoplcchiadlpaaDoor.Jc
