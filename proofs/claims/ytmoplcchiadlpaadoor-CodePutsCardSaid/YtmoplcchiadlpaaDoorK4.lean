/- code.Get: which instruction bytes begin with, or what is wrong. jacquardlaw18.few; an instruction in a block of its own: its cells; stored whole; and bounds that numbers of Go keep. Plain laws of chapter 18: of fewer bytes nothing is got. The references' smaller functions by plain words: fields, has an Op a field, are two instructions the same. Plain laws of chapter 18: what was put is got again; another register; what the functions hand back. jacquardref18.Plain: an instruction without what its Op has not. The reference's Shape, Regs, Bytes, Size and Put (chapter 18) by our plain words. The reference's Put (P18.1) by our plain words. The reference's Text (P18.4) by our plain words. -/
import Derived.Test.YtmoplcchiadlpaaDoorKJcGet1
import Derived.Test.YtmoplcchiadlpaaDoorK0
import Derived.Test.YtmoplcchiadlpaaDoorKSx3
import Derived.Test.YtmoplcchiadlpaaDoorK2
import Derived.Deep.DeepCutAuto
import Derived.Deep.CutBlock
import Derived.Test.YtmoplcchiadlpaaDoorKSx4
import Derived.Laws.Bits128
import Derived.Test.YtmoplcchiadlpaaDoorKSx5
import Derived.Test.YtmoplcchiadlpaaDoorK1
import Derived.Test.YtmoplcchiadlpaaDoorKSx6
section
set_option linter.unusedVariables false
set_option linter.unusedSimpArgs false
namespace Go.Proofs.YtmoplcchiadlpaaDoor.Jc
open Go Go.RowKit Go.ChangeMaps Go.Proofs.YtmoplcchiadlpaaDoorW.PrintWords

def getI (s : List UInt8) : M := match getM s with | .ok r => r.1 | .error _ => zeroM
def getN (s : List UInt8) : Int := match getM s with | .ok r => (r.2 : Int) | .error _ => 0
def getE (s : List UInt8) : Int := match getM s with | .ok _ => 0 | .error k => k

theorem getRegs_err (s : List UInt8) {k : Int} : ∀ (l : List UInt8) (m : M) (p : Nat), getRegs s l m p = .error k → k = 62
  | [], m, p, h => by cases h
  | [x], m, p, h => by
    unfold getRegs at h
    split at h
    · cases h
    · cases h; rfl
  | x :: y :: r, m, p, h => by
    unfold getRegs at h
    split at h
    · exact getRegs_err s r _ _ h
    · cases h; rfl
theorem getNum_err {s : List UInt8} {m : M} {p : Nat} {far : Bool} {k : Int} (h : getNum s m p far = .error k) : k = 62 ∨ k = 60 := by
  unfold getNum at h
  repeat' split at h
  all_goals first | (cases h; done) | (cases h; exact .inl rfl) | (cases h; exact .inr rfl)
theorem getM_err {s : List UInt8} {k : Int} (h : getM s = .error k) : k = 62 ∨ k = 60 := by
  unfold getM at h
  cases hr : getRaw s with
  | error e =>
    rw [hr] at h
    cases h
    unfold getRaw at hr
    split at hr
    · cases hr; exact .inl rfl
    split at hr
    · cases hr; exact .inr rfl
    cases hq : getRegs s (regsF (opB s)) (startM s) 1 with
    | error e2 =>
      rw [hq] at hr
      cases hr
      exact .inl (getRegs_err s _ _ _ hq)
    | ok q =>
      rw [hq] at hr
      simp only [] at hr
      cases hn : getNum s q.1 q.2 (farB s) with
      | error e3 =>
        rw [hn] at hr
        cases hr
        exact getNum_err hn
      | ok r => rw [hn] at hr; cases hr
  | ok q =>
    rw [hr] at h
    simp only [] at h
    cases hp : put q.1 with
    | error e => rw [hp] at h; cases h; exact .inr rfl
    | ok t =>
      rw [hp] at h
      simp only [] at h
      split at h
      · cases h
      · cases h; exact .inr rfl

theorem kept2_low {w0 w w1 : World} {b1 b2 : Nat} (h0 : Below w0.heap.size w0 w) (h : Kept2 w w1 b1 b2) (h1 : w0.heap.size ≤ b1) (h2 : w0.heap.size ≤ b2) : Below w0.heap.size w0 w1 :=
  h0.trans ⟨h.os, h.tape, h.output, h.size, fun i hi => by
    have := h0.size
    exact h.block i (by omega) (by omega) (by omega)⟩
theorem addr_add_block (a : Addr) (j : Nat) : (a.add j).block = a.block := by
  unfold Addr.add
  split <;> rfl
theorem ArgsIn.set {w : World} {m : M} {a : Option Addr} {c b : Nat} (h : ArgsIn w m a c) (hne : ∀ ad, a = some ad → ad.block ≠ b) (i : Nat) (v : Value) : ArgsIn (w.setCell ⟨b, i, none⟩ v) m a c := by
  refine ⟨⟨h.reads.1, h.reads.2.1, fun hn => ?_⟩, h.cap⟩
  obtain ⟨ad, ha, hc⟩ := h.reads.2.2 hn
  refine ⟨ad, ha, fun j hj => ?_⟩
  rw [← hc j hj]
  apply World.cell?_of_block
  rw [addr_add_block]
  have := hne ad ha
  simp [World.setCell, Array.getElem?_modify, Ne.symm this]
theorem ArgsIn.drew {w : World} {m : M} {a : Option Addr} {c : Nat} (h : ArgsIn w m a c) : ArgsIn w.drew m a c := ⟨h.reads, h.cap⟩
theorem callGet1 (cap : Array Value) (w : World) : (callFunc 58 cap).run Tryd.prog w = .ok (.enter 58 cap) w := by
  kernel_rfl

/-- What Get hands back. -/
def GotBack (s : List UInt8) (w : World) (e : Ending) (w' : World) : Prop :=
  ∃ a c, e = .returned (.tuple #[.agg (cellsM (getI s) a c), .int .i64 (getN s), .int .i64 (getE s)]) ∧ Below w.heap.size w w' ∧ ArgsIn w' (getI s) a c ∧ ∀ ad, a = some ad → w.heap.size ≤ ad.block

set_option maxRecDepth 100000 in
set_option maxHeartbeats 1000000 in
theorem get_any (s : List UInt8) (hlen : s.length ≤ 1000000000) (w : World) (htab : Lib.TabIs Tryd.prog w "strings.asciiSpace" .u8 Lib.asciiSpaceTab) :
    Calls Tryd.prog 24 #[.string (bs s)] w (GotBack s w) := by
  have HT := Lib.hid htab
  clear htab
  have hcall := Lib.hid callGet1
  go_enter Tryd.func24, Tryd.ntmps24
  go_wp2_with fail
  have hz1 := alloc_size w (.cells #[.string (bs s)] 9)
  have hp1 := alloc_at w (.cells #[.string (bs s)] 9)
  have hb1 := below_alloc (Below.refl w.heap.size w) (.cells #[.string (bs s)] 9)
  generalize w.alloc (.cells #[.string (bs s)] 9) = V1 at hz1 hp1 hb1 ⊢
  have hz2 := alloc_size V1 (.cells #[.int .i64 0, .int .i64 0, .int .i64 0, .int .i64 0, .int .i64 0, .int .i64 0, .int .i32 0, .slice none 0 0] 24)
  have hr2 := alloc_at V1 (.cells #[.int .i64 0, .int .i64 0, .int .i64 0, .int .i64 0, .int .i64 0, .int .i64 0, .int .i32 0, .slice none 0 0] 24)
  have hp2 := alloc_old (o := .cells #[.int .i64 0, .int .i64 0, .int .i64 0, .int .i64 0, .int .i64 0, .int .i64 0, .int .i32 0, .slice none 0 0] 24) hp1
  have hb2 := below_alloc hb1 (.cells #[.int .i64 0, .int .i64 0, .int .i64 0, .int .i64 0, .int .i64 0, .int .i64 0, .int .i32 0, .slice none 0 0] 24)
  generalize V1.alloc (.cells #[.int .i64 0, .int .i64 0, .int .i64 0, .int .i64 0, .int .i64 0, .int .i64 0, .int .i32 0, .slice none 0 0] 24) = V2 at hz2 hr2 hp2 hb2 ⊢
  have hz3 := alloc_size V2 (.cells #[.int .i64 0, .int .i64 0, .int .i64 0, .int .i64 0, .int .i64 0, .int .i64 0, .int .i32 0, .slice none 0 0] 24)
  have hi3 := alloc_at V2 (.cells #[.int .i64 0, .int .i64 0, .int .i64 0, .int .i64 0, .int .i64 0, .int .i64 0, .int .i32 0, .slice none 0 0] 24)
  have hr3 := alloc_old (o := .cells #[.int .i64 0, .int .i64 0, .int .i64 0, .int .i64 0, .int .i64 0, .int .i64 0, .int .i32 0, .slice none 0 0] 24) hr2
  have hp3 := alloc_old (o := .cells #[.int .i64 0, .int .i64 0, .int .i64 0, .int .i64 0, .int .i64 0, .int .i64 0, .int .i32 0, .slice none 0 0] 24) hp2
  have hb3 := below_alloc hb2 (.cells #[.int .i64 0, .int .i64 0, .int .i64 0, .int .i64 0, .int .i64 0, .int .i64 0, .int .i32 0, .slice none 0 0] 24)
  generalize V2.alloc (.cells #[.int .i64 0, .int .i64 0, .int .i64 0, .int .i64 0, .int .i64 0, .int .i64 0, .int .i32 0, .slice none 0 0] 24) = V3 at hz3 hi3 hr3 hp3 hb3 ⊢
  have hz4 := alloc_size V3 (.cells #[.int .i64 0] 3)
  have hq4 := alloc_at V3 (.cells #[.int .i64 0] 3)
  have hi4 := alloc_old (o := .cells #[.int .i64 0] 3) hi3
  have hr4 := alloc_old (o := .cells #[.int .i64 0] 3) hr3
  have hp4 := alloc_old (o := .cells #[.int .i64 0] 3) hp3
  have hb4 := below_alloc hb3 (.cells #[.int .i64 0] 3)
  generalize V3.alloc (.cells #[.int .i64 0] 3) = V4 at hz4 hq4 hi4 hr4 hp4 hb4 ⊢
  rw [hz1] at hr4 hz2
  rw [hz2] at hi4 hz3
  rw [hz3] at hq4 hz4
  have HB4 := Lib.hid hb4
  have HZ4 := Lib.hid hz4
  have HP4 := Lib.hid hp4
  have HR4 := Lib.hid hr4
  have HI4 := Lib.hid hi4
  have HQ4 := Lib.hid hq4
  clear hz1 hz2 hz3 hz4 hp1 hp2 hp3 hp4 hb1 hb2 hb3 hb4 hr2 hr3 hr4 hi3 hi4 hq4
  have hmet : Calls Tryd.prog 30 #[.func (.func 58) #[] #[.pointer (some ⟨w.heap.size, 0, none⟩), .pointer (some ⟨w.heap.size + 1 + 1 + 1, 0, none⟩), .pointer (some ⟨w.heap.size + 1 + 1, 0, none⟩)]] V4
      fun e w' => e = .returned (.int .i64 (getE s)) ∧ Below w.heap.size w w' ∧ w'.heap[w.heap.size + 1]? = some (.cells (cellsM zeroM none 0) 24 (0, 0)) ∧
        (getE s = 0 → ∃ a c, w'.heap[w.heap.size + 1 + 1]? = some (.cells (cellsM (getI s) a c) 24 (0, 0)) ∧ w'.heap[w.heap.size + 1 + 1 + 1]? = some (.cells #[.int .i64 (getN s)] 3 (0, 0)) ∧ ArgsIn w' (getI s) a c ∧ ∀ ad, a = some ad → w.heap.size + 4 ≤ ad.block) := by
    have hz := HZ4.out
    refine caught_any _ _ V4 _ (fun w => callGet1 _ w) ?_
    have hb5 := below_alloc HB4.out (.cells #[.int .i64 0] 27)
    refine (get1_any s hlen w.heap.size (w.heap.size + 1 + 1 + 1) (w.heap.size + 1 + 1) (by omega) (by omega) (by omega) (V4.alloc (.cells #[.int .i64 0] 27)) (alloc_old HP4.out) (alloc_old HQ4.out) (alloc_old HI4.out)
      (fun W hW => tabIs_below HT.out (kept2_low hb5 hW (by omega) (by omega)))).mono ?_
    rintro e w' ⟨hk, hp⟩
    have hz5 := alloc_size V4 (.cells #[.int .i64 0] 27)
    have hE : w'.heap[V4.heap.size]? = some (.cells #[.int .i64 0] 27 (0, 0)) := hk.at (alloc_at _ _) (by omega) (by omega)
    have hR : w'.heap[w.heap.size + 1]? = some (.cells (cellsM zeroM none 0) 24 (0, 0)) := hk.at (alloc_old HR4.out) (by omega) (by omega)
    have hB2 : Below w.heap.size w w' := kept2_low hb5 hk (by omega) (by omega)
    refine ⟨(cell_blk hE 0).trans rfl, froz_blk hE 0, ?_⟩
    unfold getE getI getN
    cases hg : getM s with
    | ok r =>
      rw [hg] at hp
      obtain ⟨he, ⟨a, c, h1, h2, h3⟩, h4⟩ := hp
      refine .inl ⟨he, rfl, below_set hB2 (by omega) _ _, set_other hR (by omega) _ _, fun _ => ⟨a, c, set_other h1 (by omega) _ _, set_other h4 (by omega) _ _, h2.set (fun ad ha => by have := h3 ad ha; omega) _ _, fun ad ha => by have := h3 ad ha; omega⟩⟩
    | error k =>
      rw [hg] at hp
      refine .inr ⟨k, hp, rfl, below_alloc (below_set hB2 (by omega) _ _) _, alloc_old (set_other hR (by omega) _ _), fun h0 => ?_⟩
      have h0 : k = 0 := h0
      rcases getM_err hg with h | h <;> omega
  refine hmet.mono ?_
  rintro e w1 ⟨rfl, hB, hR, hs⟩
  have HB := Lib.hid hB
  have HR := Lib.hid hR
  have HS := Lib.hid hs
  have hR2 := hR
  unfold cellsM at hR2
  have hz := HB.out.size
  have zr : ∀ i, w1.frozen? ⟨w.heap.size + 1, i, none⟩ = false := fun i => froz_blk hR2 i
  have r0 := cell_blk hR2 0
  have r1 := cell_blk hR2 1
  have r2 := cell_blk hR2 2
  have r3 := cell_blk hR2 3
  have r4 := cell_blk hR2 4
  have r5 := cell_blk hR2 5
  have r6 := cell_blk hR2 6
  have r7 := cell_blk hR2 7
  clear hmet hB hR hs hR2 HP4 HQ4 HI4 HR4 HB4 HZ4
  cases hg : getM s with
  | error k =>
    have he : getE s = k := by unfold getE; rw [hg]
    have hI : getI s = zeroM := by unfold getI; rw [hg]
    have hN : getN s = 0 := by unfold getN; rw [hg]
    have hk : (k == 0) = false := by
      rw [beq_eq_false_iff_ne]
      rcases getM_err hg with h | h <;> omega
    have HE := Lib.hid he
    have HI := Lib.hid hI
    have HN := Lib.hid hN
    rw [HE.out]
    clear he hg hI hN
    go_wp2_with fail
    have hlt := blk_lt' HR.out
    refine bodyPost_ret (v := .tuple #[.agg #[.int .i64 0, .int .i64 0, .int .i64 0, .int .i64 0, .int .i64 0, .int .i64 0, .int .i32 0, .slice none 0 0], .int .i64 0, .int .i64 k]) (by simp [results, Tryd.results24, go_sem, r0, r1, r2, r3, r4, r5, r6, r7]) rfl ?_
    refine ⟨none, 0, ?_, ?_, args_none (by rw [HI.out]; rfl) _, fun ad h => by cases h⟩
    · rw [HI.out, HN.out, HE.out]; rfl
    · exact below_set (below_set (below_set (below_set (below_set (below_set (below_set (below_set HB.out (by omega) _ _) (by omega) _ _) (by omega) _ _) (by omega) _ _) (by omega) _ _) (by omega) _ _) (by omega) _ _) (by omega) _ _
  | ok r =>
    have he : getE s = 0 := by unfold getE; rw [hg]
    have HE := Lib.hid he
    rw [HE.out]
    obtain ⟨a, c, hi, hq, har, hfr⟩ := HS.out he
    unfold cellsM at hi
    have d0 := cell_blk hi 0
    have d1 := cell_blk hi 1
    have d2 := cell_blk hi 2
    have d3 := cell_blk hi 3
    have d4 := cell_blk hi 4
    have d5 := cell_blk hi 5
    have d6 := cell_blk hi 6
    have d7 := cell_blk hi 7
    have q0 := cell_blk hq 0
    have HI := Lib.hid hi
    have HA := Lib.hid har
    have HF := Lib.hid hfr
    clear he hg hi hq har hfr
    go_wp2_with fail
    go_region
    all_goals
      go_wp2_with fail
      refine bodyPost_ret (v := .tuple #[.agg #[.int .i64 (getI s).op, .int .i64 (getI s).d, .int .i64 (getI s).e, .int .i64 (getI s).a, .int .i64 (getI s).b, .int .i64 (getI s).c, .int .i32 (getI s).imm, .slice a (getI s).args.length c], .int .i64 (getN s), .int .i64 0]) (by simp [results, Tryd.results24, go_sem, r0, r1, r2, r3, r4, r5, r6, r7]) rfl ?_
      have hne : ∀ ad, a = some ad → ad.block ≠ w.heap.size + 1 := fun ad ha => by have := HF.out ad ha; omega
      refine ⟨a, c, ?_, ?_, ?_, fun ad ha => by have := HF.out ad ha; omega⟩
      · rw [HE.out]; rfl
      · exact below_drewR (below_set (below_set (below_set (below_set (below_set (below_set (below_set (below_set HB.out (by omega) _ _) (by omega) _ _) (by omega) _ _) (by omega) _ _) (by omega) _ _) (by omega) _ _) (by omega) _ _) (by omega) _ _)
      · refine ArgsIn.drew ?_
        refine ArgsIn.set ?_ hne _ _
        refine ArgsIn.set ?_ hne _ _
        refine ArgsIn.set ?_ hne _ _
        refine ArgsIn.set ?_ hne _ _
        refine ArgsIn.set ?_ hne _ _
        refine ArgsIn.set ?_ hne _ _
        refine ArgsIn.set ?_ hne _ _
        refine ArgsIn.set ?_ hne _ _
        exact HA.out
end Go.Proofs.YtmoplcchiadlpaaDoor.Jc
end
section
set_option linter.unusedVariables false
set_option linter.unusedSimpArgs false
namespace Go.Proofs.YtmoplcchiadlpaaDoor.Jc
section
open Go Go.RowKit Go.ChangeMaps Go.Proofs.YtmoplcchiadlpaaDoorW.PrintWords

def fewM (m : M) : M := { m with args := m.args.take 70 }
/-- An instruction that is handed back, its Args in blocks of the call's own. -/
def HandsM (m : M) (w : World) (e : Ending) (w' : World) : Prop :=
  ∃ a c, e = .returned (.agg (cellsM m a c)) ∧ Below w.heap.size w w' ∧ ArgsIn w' m a c ∧ ∀ ad, a = some ad → w.heap.size ≤ ad.block

section
variable {P : Program} {ops : Array Oper} {o : Oper} {a : Act} {Q : Exit → Act → World → Prop}
end
theorem own_args {w : World} {base n : Nat} {v : Value} {xs : List Int} (h : w.ownsRow base 3 1 v n (nums .i64 xs)) : ∃ A c, v = .slice A n c ∧ ReadsInt w .i64 A n xs ∧ n ≤ c ∧ ∀ ad, A = some ad → base ≤ ad.block := by
  obtain ⟨A, c, rfl, hr⟩ := own_reads h
  refine ⟨A, c, rfl, hr, ?_, fun ad ha => ?_⟩
  · rcases h.2 with ⟨h0, h1⟩ | ⟨g, cap, cur, hv, _, _, hc, _⟩
    · omega
    · cases hv
      exact hc
  · subst ha
    exact own_base h ad.block rfl

set_option maxRecDepth 100000 in
set_option maxHeartbeats 2000000 in
theorem few_any (m : M) (a : Option Addr) (c : Nat) (w : World) (har : ArgsIn w m a c) : Calls Tryd.prog 13 #[.agg (cellsM m a c)] w (HandsM (fewM m) w) := by
  have hcap := har.cap
  have hmax := har.reads.2.1
  have hm0 : 0 ≤ min (m.args.length : Int) 70 := by omega
  have hmc : min (m.args.length : Int) 70 ≤ c := by omega
  have hmn : (min (m.args.length : Int) 70).toNat = (m.args.take 70).length := by rw [List.length_take]; omega
  have hrd : ReadsInt w .i64 a (min (m.args.length : Int) 70).toNat (m.args.take 70) := by
    have h := har.reads.take_ (min m.args.length 70) (by omega)
    have e1 : m.args.take (min m.args.length 70) = m.args.take 70 := by
      by_cases h70 : m.args.length ≤ 70
      · rw [List.take_of_length_le (show m.args.length ≤ 70 from h70), List.take_of_length_le (by omega)]
      · rw [show min m.args.length 70 = 70 by omega]
    have e2 : (min (m.args.length : Int) 70).toNat = min m.args.length 70 := by omega
    rw [e1] at h
    rw [e2]
    exact h
  have HRD := Lib.hid hrd
  have HMN := Lib.hid hmn
  clear har hmn hrd
  unfold cellsM
  go_enter Tryd.func13, Tryd.ntmps13
  have hO := World.ownsRow_made (base := w.heap.size + 1 + 1) (e := 3) (size := 1) ((w.alloc (.cells #[.int .i64 m.op, .int .i64 m.d, .int .i64 m.e, .int .i64 m.a, .int .i64 m.b, .int .i64 m.c, .int .i32 m.imm, .slice a m.args.length c] 24)).alloc (.cells #[.int .i64 0, .int .i64 0, .int .i64 0, .int .i64 0, .int .i64 0, .int .i64 0, .int .i32 0, .slice none 0 0] 24)) #[] 0 (by simp) (by decide) (by simp)
  have hb3 := below_alloc (below_alloc (below_alloc (Below.refl w.heap.size w) (.cells #[.int .i64 m.op, .int .i64 m.d, .int .i64 m.e, .int .i64 m.a, .int .i64 m.b, .int .i64 m.c, .int .i32 m.imm, .slice a m.args.length c] 24)) (.cells #[.int .i64 0, .int .i64 0, .int .i64 0, .int .i64 0, .int .i64 0, .int .i64 0, .int .i32 0, .slice none 0 0] 24)) (.cells #[] 3)
  have hi3 := alloc_old (o := .cells #[] 3) (alloc_old (o := .cells #[.int .i64 0, .int .i64 0, .int .i64 0, .int .i64 0, .int .i64 0, .int .i64 0, .int .i32 0, .slice none 0 0] 24) (alloc_at w (.cells #[.int .i64 m.op, .int .i64 m.d, .int .i64 m.e, .int .i64 m.a, .int .i64 m.b, .int .i64 m.c, .int .i32 m.imm, .slice a m.args.length c] 24)))
  have hr3 := alloc_old (o := .cells #[] 3) (alloc_at (w.alloc (.cells #[.int .i64 m.op, .int .i64 m.d, .int .i64 m.e, .int .i64 m.a, .int .i64 m.b, .int .i64 m.c, .int .i32 m.imm, .slice a m.args.length c] 24)) (.cells #[.int .i64 0, .int .i64 0, .int .i64 0, .int .i64 0, .int .i64 0, .int .i64 0, .int .i32 0, .slice none 0 0] 24))
  have hz3 : (((w.alloc (.cells #[.int .i64 m.op, .int .i64 m.d, .int .i64 m.e, .int .i64 m.a, .int .i64 m.b, .int .i64 m.c, .int .i32 m.imm, .slice a m.args.length c] 24)).alloc (.cells #[.int .i64 0, .int .i64 0, .int .i64 0, .int .i64 0, .int .i64 0, .int .i64 0, .int .i32 0, .slice none 0 0] 24)).alloc (.cells #[] 3)).heap.size = w.heap.size + 1 + 1 + 1 := by simp
  rw [alloc_size, alloc_size] at hO
  rw [alloc_size] at hr3
  have HO := Lib.hid hO
  have HB3 := Lib.hid hb3
  have HI3 := Lib.hid hi3
  have HR3 := Lib.hid hr3
  have HZ3 := Lib.hid hz3
  clear hO hb3 hi3 hr3 hz3
  go_wp2_with (at_builtin; (refine print_append_row (w.heap.size + 1 + 1) rfl (.tmp 3) (.tmp 10) 22 3 .i64 8 rfl Tryd.underlying22 info_int (by decide) _ [] (m.args.take 70) a _ c rfl rfl HO.out (HRD.out.below HB3.out) (Below.refl _ _) (by rw [HZ3.out]; omega) (by rw [List.length_nil]; omega) ?_; intro v1 w1 hown hB _ _; rw [List.nil_append] at hown; obtain ⟨A1, c1, hv1, hr1, hc1, hf1⟩ := own_args hown; subst hv1; have hi := (hB.block w.heap.size (by omega)).trans HI3.out; have hr := (hB.block (w.heap.size + 1) (by omega)).trans HR3.out; have hbw := HB3.out.trans (hB.mono (show w.heap.size ≤ w.heap.size + 1 + 1 by omega)); have i0 := cell_blk hi 0; have i1 := cell_blk hi 1; have i2 := cell_blk hi 2; have i3 := cell_blk hi 3; have i4 := cell_blk hi 4; have i5 := cell_blk hi 5; have i6 := cell_blk hi 6; have i7 := cell_blk hi 7; have z7 := froz_blk hi 7; have r0 := cell_blk hr 0; have r1 := cell_blk hr 1; have r2 := cell_blk hr 2; have r3 := cell_blk hr 3; have r4 := cell_blk hr 4; have r5 := cell_blk hr 5; have r6 := cell_blk hr 6; have r7 := cell_blk hr 7; have zr := fun i => froz_blk hr i; have HOWN := Lib.hid hown; have HR1 := Lib.hid hr1; have HC1 := Lib.hid hc1; have HF1 := Lib.hid hf1; have HBW := Lib.hid hbw; clear hi hr hbw hown hr1 hc1 hf1 hB))
  have hle : (fewM m).args.length = min 70 m.args.length := by show (m.args.take 70).length = _; rw [List.length_take]
  have hne : ∀ ad, A1 = some ad → ad.block ≠ w.heap.size + 1 := fun ad ha => by have := HF1.out ad ha; omega
  have hne0 : ∀ ad, A1 = some ad → ad.block ≠ w.heap.size := fun ad ha => by have := HF1.out ad ha; omega
  refine bodyPost_ret (v := .agg #[.int .i64 m.op, .int .i64 m.d, .int .i64 m.e, .int .i64 m.a, .int .i64 m.b, .int .i64 m.c, .int .i32 m.imm, .slice A1 (min 70 m.args.length) c1]) (by simp [results, Tryd.results13, go_sem, r0, r1, r2, r3, r4, r5, r6, r7]) rfl ?_
  refine ⟨A1, c1, ?_, ?_, ?_, fun ad ha => by have := HF1.out ad ha; omega⟩
  · unfold cellsM
    rw [hle]
    rfl
  · exact below_set (below_set (below_set (below_set (below_set (below_set (below_set (below_set (below_set HBW.out (by omega) _ _) (by omega) _ _) (by omega) _ _) (by omega) _ _) (by omega) _ _) (by omega) _ _) (by omega) _ _) (by omega) _ _) (by omega) _ _
  · refine ArgsIn.set ?_ hne _ _
    refine ArgsIn.set ?_ hne _ _
    refine ArgsIn.set ?_ hne _ _
    refine ArgsIn.set ?_ hne _ _
    refine ArgsIn.set ?_ hne _ _
    refine ArgsIn.set ?_ hne _ _
    refine ArgsIn.set ?_ hne _ _
    refine ArgsIn.set ?_ hne _ _
    refine ArgsIn.set ?_ hne0 _ _
    exact ⟨HR1.out, HC1.out⟩
end
section
open Go Go.RowKit Go.ChangeMaps Go.Proofs.YtmoplcchiadlpaaDoorW.PrintWords

/-- Block b is an instruction. -/
def MachAt (w : World) (b : Nat) (m : M) (a : Option Addr) (c : Nat) : Prop := w.heap[b]? = some (.cells (cellsM m a c) 24 (0, 0))
theorem MachAt.cells {w : World} {b : Nat} {m : M} {a : Option Addr} {c : Nat} (h : MachAt w b m a c) :
    w.cell? ⟨b, 0, none⟩ = some (.int .i64 m.op) ∧ w.cell? ⟨b, 1, none⟩ = some (.int .i64 m.d) ∧ w.cell? ⟨b, 2, none⟩ = some (.int .i64 m.e) ∧ w.cell? ⟨b, 3, none⟩ = some (.int .i64 m.a) ∧ w.cell? ⟨b, 4, none⟩ = some (.int .i64 m.b) ∧
    w.cell? ⟨b, 5, none⟩ = some (.int .i64 m.c) ∧ w.cell? ⟨b, 6, none⟩ = some (.int .i32 m.imm) ∧ w.cell? ⟨b, 7, none⟩ = some (.slice a m.args.length c) ∧ ∀ i, w.frozen? ⟨b, i, none⟩ = false :=
  ⟨(cell_blk h 0).trans rfl, (cell_blk h 1).trans rfl, (cell_blk h 2).trans rfl, (cell_blk h 3).trans rfl, (cell_blk h 4).trans rfl, (cell_blk h 5).trans rfl, (cell_blk h 6).trans rfl, (cell_blk h 7).trans rfl, fun i => froz_blk h i⟩
theorem MachAt.lt {w : World} {b : Nat} {m : M} {a : Option Addr} {c : Nat} (h : MachAt w b m a c) : b < w.heap.size := blk_lt' h
theorem MachAt.below {w w1 : World} {b : Nat} {m : M} {a : Option Addr} {c : Nat} (h : MachAt w b m a c) (hb : Below w.heap.size w w1) : MachAt w1 b m a c := (hb.block b h.lt).trans h
theorem MachAt.grown {w w1 : World} {b g : Nat} {m : M} {a : Option Addr} {c : Nat} (h : MachAt w b m a c) (hg : w.grownBy w1 (some g)) (hne : b ≠ g) : MachAt w1 b m a c := grown_blk h hg (by simpa using hne)
/-- The eight cells, stored one by one. -/
def set8 (w : World) (b : Nat) (m : M) (a : Option Addr) (c : Nat) : World :=
  (((((((w.setCell ⟨b, 0, none⟩ (.int .i64 m.op)).setCell ⟨b, 1, none⟩ (.int .i64 m.d)).setCell ⟨b, 2, none⟩ (.int .i64 m.e)).setCell ⟨b, 3, none⟩ (.int .i64 m.a)).setCell ⟨b, 4, none⟩ (.int .i64 m.b)).setCell ⟨b, 5, none⟩ (.int .i64 m.c)).setCell ⟨b, 6, none⟩ (.int .i32 m.imm)).setCell ⟨b, 7, none⟩ (.slice a m.args.length c)
theorem set8_grown (w : World) (b : Nat) (m : M) (a : Option Addr) (c : Nat) : w.grownBy (set8 w b m a c) (some b) := by
  unfold set8
  refine grown_set ?_ _ _
  refine grown_set ?_ _ _
  refine grown_set ?_ _ _
  refine grown_set ?_ _ _
  refine grown_set ?_ _ _
  refine grown_set ?_ _ _
  refine grown_set ?_ _ _
  refine grown_set ?_ _ _
  exact World.grownBy.refl w (some b)
theorem set8_at {w : World} {b : Nat} {m0 : M} {a0 : Option Addr} {c0 : Nat} (h : MachAt w b m0 a0 c0) (m : M) (a : Option Addr) (c : Nat) : MachAt (set8 w b m a c) b m a c := by
  have h0 : w.heap[b]? = some (.cells #[.int .i64 m0.op, .int .i64 m0.d, .int .i64 m0.e, .int .i64 m0.a, .int .i64 m0.b, .int .i64 m0.c, .int .i32 m0.imm, .slice a0 m0.args.length c0] 24 (0, 0)) := h
  have h1 : (w.setCell ⟨b, 0, none⟩ (.int .i64 m.op)).heap[b]? = some (.cells #[.int .i64 m.op, .int .i64 m0.d, .int .i64 m0.e, .int .i64 m0.a, .int .i64 m0.b, .int .i64 m0.c, .int .i32 m0.imm, .slice a0 m0.args.length c0] 24 (0, 0)) := set_cells h0 0 _
  generalize hw1 : (w.setCell ⟨b, 0, none⟩ (.int .i64 m.op)) = w1 at h1
  have h2 : (w1.setCell ⟨b, 1, none⟩ (.int .i64 m.d)).heap[b]? = some (.cells #[.int .i64 m.op, .int .i64 m.d, .int .i64 m0.e, .int .i64 m0.a, .int .i64 m0.b, .int .i64 m0.c, .int .i32 m0.imm, .slice a0 m0.args.length c0] 24 (0, 0)) := set_cells h1 1 _
  generalize hw2 : (w1.setCell ⟨b, 1, none⟩ (.int .i64 m.d)) = w2 at h2
  have h3 : (w2.setCell ⟨b, 2, none⟩ (.int .i64 m.e)).heap[b]? = some (.cells #[.int .i64 m.op, .int .i64 m.d, .int .i64 m.e, .int .i64 m0.a, .int .i64 m0.b, .int .i64 m0.c, .int .i32 m0.imm, .slice a0 m0.args.length c0] 24 (0, 0)) := set_cells h2 2 _
  generalize hw3 : (w2.setCell ⟨b, 2, none⟩ (.int .i64 m.e)) = w3 at h3
  have h4 : (w3.setCell ⟨b, 3, none⟩ (.int .i64 m.a)).heap[b]? = some (.cells #[.int .i64 m.op, .int .i64 m.d, .int .i64 m.e, .int .i64 m.a, .int .i64 m0.b, .int .i64 m0.c, .int .i32 m0.imm, .slice a0 m0.args.length c0] 24 (0, 0)) := set_cells h3 3 _
  generalize hw4 : (w3.setCell ⟨b, 3, none⟩ (.int .i64 m.a)) = w4 at h4
  have h5 : (w4.setCell ⟨b, 4, none⟩ (.int .i64 m.b)).heap[b]? = some (.cells #[.int .i64 m.op, .int .i64 m.d, .int .i64 m.e, .int .i64 m.a, .int .i64 m.b, .int .i64 m0.c, .int .i32 m0.imm, .slice a0 m0.args.length c0] 24 (0, 0)) := set_cells h4 4 _
  generalize hw5 : (w4.setCell ⟨b, 4, none⟩ (.int .i64 m.b)) = w5 at h5
  have h6 : (w5.setCell ⟨b, 5, none⟩ (.int .i64 m.c)).heap[b]? = some (.cells #[.int .i64 m.op, .int .i64 m.d, .int .i64 m.e, .int .i64 m.a, .int .i64 m.b, .int .i64 m.c, .int .i32 m0.imm, .slice a0 m0.args.length c0] 24 (0, 0)) := set_cells h5 5 _
  generalize hw6 : (w5.setCell ⟨b, 5, none⟩ (.int .i64 m.c)) = w6 at h6
  have h7 : (w6.setCell ⟨b, 6, none⟩ (.int .i32 m.imm)).heap[b]? = some (.cells #[.int .i64 m.op, .int .i64 m.d, .int .i64 m.e, .int .i64 m.a, .int .i64 m.b, .int .i64 m.c, .int .i32 m.imm, .slice a0 m0.args.length c0] 24 (0, 0)) := set_cells h6 6 _
  generalize hw7 : (w6.setCell ⟨b, 6, none⟩ (.int .i32 m.imm)) = w7 at h7
  have h8 : (w7.setCell ⟨b, 7, none⟩ (.slice a m.args.length c)).heap[b]? = some (.cells #[.int .i64 m.op, .int .i64 m.d, .int .i64 m.e, .int .i64 m.a, .int .i64 m.b, .int .i64 m.c, .int .i32 m.imm, .slice a m.args.length c] 24 (0, 0)) := set_cells h7 7 _
  generalize hw8 : (w7.setCell ⟨b, 7, none⟩ (.slice a m.args.length c)) = w8 at h8
  have e : set8 w b m a c = w8 := by unfold set8; rw [hw1, hw2, hw3, hw4, hw5, hw6, hw7, hw8]
  rw [e]
  exact h8
theorem ArgsIn.grown {w w1 : World} {m : M} {a : Option Addr} {c g : Nat} (h : ArgsIn w m a c) (hg : w.grownBy w1 (some g)) (hne : ∀ ad, a = some ad → ad.block ≠ g) : ArgsIn w1 m a c := by
  refine ⟨⟨h.reads.1, h.reads.2.1, fun hn => ?_⟩, h.cap⟩
  obtain ⟨ad, ha, hc⟩ := h.reads.2.2 hn
  refine ⟨ad, ha, fun j hj => ?_⟩
  have hcell := hc j hj
  have hlt := World.block_lt_of_cell? w _ hcell
  rw [← hcell]
  apply World.cell?_of_block
  exact hg.block _ hlt (by
    rw [addr_add_block]
    have := hne ad ha
    simpa using this)
theorem ArgsIn.same {w : World} {m m' : M} {a : Option Addr} {c : Nat} (h : ArgsIn w m a c) (e : m'.args = m.args) : ArgsIn w m' a c := ⟨by rw [e]; exact h.reads, by rw [e]; exact h.cap⟩
/-- Numbers of Go, but for how many Args there are. -/
structure InGo (m : M) : Prop where
  imm : -2147483648 ≤ m.imm ∧ m.imm ≤ 2147483647
  op : In64 m.op
  d : In64 m.d
  e : In64 m.e
  a : In64 m.a
  b : In64 m.b
  c : In64 m.c
  args : ∀ x ∈ m.args, In64 x
theorem InGo.few {m : M} (h : InGo m) : InR (fewM m) :=
  ⟨h.imm, h.op, h.d, h.e, h.a, h.b, h.c, fun x hx => h.args x (List.mem_of_mem_take hx), by show (m.args.take 70).length ≤ 1000000; rw [List.length_take]; omega⟩
/-- What an argument that is an instruction is known by. -/
def CameIn (w : World) (m : M) (a : Option Addr) (c : Nat) : Prop :=
  ArgsIn w m a c ∧ (-2147483648 ≤ m.imm ∧ m.imm ≤ 2147483647) ∧ In64 m.op ∧ In64 m.d ∧ In64 m.e ∧ In64 m.a ∧ In64 m.b ∧ In64 m.c ∧ ∀ x ∈ m.args, In64 x
theorem CameIn.go {w : World} {m : M} {a : Option Addr} {c : Nat} (h : CameIn w m a c) : InGo m := ⟨h.2.1, h.2.2.1, h.2.2.2.1, h.2.2.2.2.1, h.2.2.2.2.2.1, h.2.2.2.2.2.2.1, h.2.2.2.2.2.2.2.1, h.2.2.2.2.2.2.2.2⟩
end
section
open Go Go.RowKit Go.ChangeMaps Go.Proofs.YtmoplcchiadlpaaDoorW.PrintWords

end
end Go.Proofs.YtmoplcchiadlpaaDoor.Jc
end
section
set_option linter.unusedVariables false
set_option linter.unusedSimpArgs false
namespace Go.Proofs.YtmoplcchiadlpaaDoor.Jc
open Go

/-! What is got is an instruction of Go's numbers. -/
end Go.Proofs.YtmoplcchiadlpaaDoor.Jc
end
section
set_option linter.unusedVariables false
set_option linter.unusedSimpArgs false
namespace Go.Proofs.YtmoplcchiadlpaaDoor.Jc
open Go Go.RowKit Go.ChangeMaps Go.Proofs.YtmoplcchiadlpaaDoorW.PrintWords Go.Proofs.YtmoplcchiadlpaaDoorW.PrintLast Go.Proofs.YtmoplcchiadlpaaDoorW.PrintMore

theorem op_range (op : Int) (h : ¬ (1 ≤ op ∧ op ≤ 51)) : fieldsOf op = [] ∧ known op = false := by
  have hk : known op = false := by
    cases hk : known op
    · rfl
    · exact absurd (op_known op hk) h
  refine ⟨?_, hk⟩
  unfold known at hk
  unfold fieldsOf
  cases hi : info op tab with
  | none => rfl
  | some x => rw [hi] at hk; cases hk
theorem fields_in : ((List.range 52).all fun n => decide (S.jacquardref18_Fields.f 8 (n : Int) = some (bs (fieldsOf n)))) = true := by decide +kernel
theorem fields_f (op : Int) : S.jacquardref18_Fields.f 8 op = some (bs (fieldsOf op)) := by
  by_cases h : 0 ≤ op ∧ op ≤ 51
  · have h1 := List.all_eq_true.1 fields_in op.toNat (by rw [List.mem_range]; omega)
    rw [decide_eq_true_eq, Int.toNat_of_nonneg h.1] at h1
    exact h1
  · rw [(op_range op (by omega)).1]
    have hn : ∀ k : Int, 0 ≤ k → k ≤ 51 → ¬ op = k := fun k h1 h2 h3 => by omega
    have hb : ∀ k : Int, 0 ≤ k → k ≤ 51 → (op == k) = false := fun k h1 h2 => by simpa using hn k h1 h2
    by_cases h5 : op ≥ 5
    · have h43 : op ≥ 43 := by omega
      have h17 : decide (op ≤ 17) = false := by simp; omega
      have h48 : decide (op ≤ 48) = false := by simp; omega
      simp [S.jacquardref18_Fields.f, S.jacquardref18_Fields.j0, S.jacquardref18_Fields.j1, S.jacquardref18_Fields.j2, S.jacquardref18_Fields.j3, S.jacquardref18_Fields.j4, S.jacquardref18_Fields.j5, h5, h43, h17, h48, hn, hb]
    · have h43 : ¬ op ≥ 43 := by omega
      simp [S.jacquardref18_Fields.f, S.jacquardref18_Fields.j0, S.jacquardref18_Fields.j1, S.jacquardref18_Fields.j2, S.jacquardref18_Fields.j3, S.jacquardref18_Fields.j4, S.jacquardref18_Fields.j5, h5, h43, hn, hb]
theorem bt_bs (l : List UInt8) (i : Nat) (h : i < l.length) : bt (bs l) (i : Int) = ((l[i]'h).toNat : Int) := by
  have hs := bs_size l
  unfold bt
  simp only [Int.toNat_natCast]
  first | rw [dif_pos (by rw [hs]; exact h)] | (simp [hs, h]; done)
  rfl
theorem wrap_nat {n : Nat} (h : n < 1000000) : wrap64 ((n : Int) + 1) = ((n + 1 : Nat) : Int) := by
  unfold wrap64
  omega
end Go.Proofs.YtmoplcchiadlpaaDoor.Jc
end
section
set_option linter.unusedVariables false
set_option linter.unusedSimpArgs false
namespace Go.Proofs.YtmoplcchiadlpaaDoor.Jc
section
open Go

/-! Bytes. -/
/-! Registers. -/
/-! The number. -/
end
section
open Go

end
section
open Go Go.RowKit Go.ChangeMaps Go.Proofs.YtmoplcchiadlpaaDoorW.PrintWords

end
end Go.Proofs.YtmoplcchiadlpaaDoor.Jc
end
section
set_option linter.unusedVariables false
set_option linter.unusedSimpArgs false
namespace Go.Proofs.YtmoplcchiadlpaaDoor.Jc
open Go Go.RowKit Go.ChangeMaps Go.Proofs.YtmoplcchiadlpaaDoorW.PrintWords

/-! Plain words. -/
/-- The last letter (0: none). -/
def lastF (op : Int) : UInt8 := (fieldsOf op).getLastD 0
def ofT (x : UInt8) (far : Bool) : Int × Int × Int :=
  if x = 104 then (2, -32768, 32767) else if x = 119 then (4, -2147483648, 2147483647) else if x = 105 then (1, -128, 127) else if x = 115 then (1, 0, 31) else if x = 117 then (1, 0, 255) else if x = 112 then (2, 0, 16383)
  else if x = 116 then (3, -8388608, 8388607) else if x = 98 then (if far = true then (3, -8388608, 8388607) else (1, -128, 127)) else (0, 0, 0)
theorem u8_int (x y : UInt8) : ((x.toNat : Int) = (y.toNat : Int)) = (x = y) := by
  apply propext
  exact ⟨fun h => UInt8.toNat_inj.1 (by omega), fun h => by rw [h]⟩
theorem of_f (x : UInt8) (far : Bool) : S.jacquardref18_Of.f (x.toNat : Int) far = some (ofT x far) := by
  have e104 : ((x.toNat : Int) = 104) = (x = 104) := u8_int x 104
  have e119 : ((x.toNat : Int) = 119) = (x = 119) := u8_int x 119
  have e105 : ((x.toNat : Int) = 105) = (x = 105) := u8_int x 105
  have e115 : ((x.toNat : Int) = 115) = (x = 115) := u8_int x 115
  have e117 : ((x.toNat : Int) = 117) = (x = 117) := u8_int x 117
  have e112 : ((x.toNat : Int) = 112) = (x = 112) := u8_int x 112
  have e116 : ((x.toNat : Int) = 116) = (x = 116) := u8_int x 116
  have e98 : ((x.toNat : Int) = 98) = (x = 98) := u8_int x 98
  unfold S.jacquardref18_Of.f ofT
  simp only [e104, e119, e105, e115, e117, e112, e116, e98]
  repeat' split
  all_goals rfl
end Go.Proofs.YtmoplcchiadlpaaDoor.Jc
end
section
set_option linter.unusedVariables false
set_option linter.unusedSimpArgs false
namespace Go.Proofs.YtmoplcchiadlpaaDoor.Jc
open Go Go.RowKit Go.ChangeMaps Go.Proofs.YtmoplcchiadlpaaDoorW.PrintWords Go.Proofs.YtmoplcchiadlpaaDoorW.PrintLast Go.Proofs.YtmoplcchiadlpaaDoorW.PrintMore

theorem Ev.next {α : Type} {g : Nat → Option α} {r : α} (h : Ev (fun k => g (k + 1)) r) : Ev g r := Ev.step (fun _ => rfl) h
theorem fields_ev (op : Int) : Ev (fun k => S.jacquardref18_Fields.f k op) (bs (fieldsOf op)) := Ev.of (fun k => S.jacquardref18_Fields.mono op k) (fields_f op)
theorem rhas_loop (x : UInt8) (l : List UInt8) (hl : l.length < 1000) : ∀ (d i : Nat), i + d = l.length → Ev (fun k => S.jacquardref18_has.l0 k (x.toNat : Int) (bs l) (i : Int)) (decide (x ∈ l.drop i))
  | 0, i, hd => by
    have hs := bs_size l
    refine Ev.step (f := fun _ => some (decide (x ∈ l.drop i))) (fun k => ?_) (Ev.now _)
    simp only [S.jacquardref18_has.l0]
    rw [if_neg (by rw [hs]; omega), List.drop_of_length_le (by omega)]
    simp
  | d + 1, i, hd => by
    have hs := bs_size l
    have hi : i < l.length := by omega
    have ih := rhas_loop x l hl d (i + 1) (by omega)
    rw [List.drop_eq_getElem_cons hi]
    by_cases hx : l[i] = x
    · refine Ev.step (f := fun _ => some (decide (x ∈ l[i] :: l.drop (i + 1)))) (fun k => ?_) (Ev.now _)
      simp only [S.jacquardref18_has.l0]
      rw [if_pos (by rw [hs]; omega), if_pos (by omega), bt_bs l i hi, if_pos (by rw [hx])]
      congr 1
      symm
      rw [decide_eq_true_eq, hx]
      exact List.mem_cons_self
    · have hne : ¬ ((l[i].toNat : Int) = (x.toNat : Int)) := fun h => hx (UInt8.toNat_inj.1 (by omega))
      have hne2 : ¬ x = l[i] := fun h => hx h.symm
      refine Ev.step (f := fun k => S.jacquardref18_has.l0 k (x.toNat : Int) (bs l) ((i + 1 : Nat) : Int)) (fun k => ?_) ?_
      · simp only [S.jacquardref18_has.l0]
        rw [if_pos (by rw [hs]; omega), if_pos (by omega), bt_bs l i hi, if_neg hne, wrap_nat (by omega)]
      · have e : decide (x ∈ l[i] :: l.drop (i + 1)) = decide (x ∈ l.drop (i + 1)) := by
          rw [decide_eq_decide]
          exact ⟨fun h => (List.mem_cons.1 h).resolve_left hne2, fun h => List.mem_cons_of_mem _ h⟩
        rw [e]
        exact ih
theorem rhas_ev (op : Int) (x : UInt8) : Ev (fun k => S.jacquardref18_has.f k op (x.toNat : Int)) (decide (x ∈ fieldsOf op)) := by
  have hl := fields_short op
  unfold S.jacquardref18_has.f
  exact Ev.bind (fields_ev op) (rhas_loop x (fieldsOf op) (by omega) (fieldsOf op).length 0 (by omega))
theorem mem_b (op : Int) : decide ((98 : UInt8) ∈ fieldsOf op) = decide (numF op = 98) := by
  have := info_all (fun _ _ f _ => decide ((98 : UInt8) ∈ f) == decide ((splitF f).2 = 98)) (fun _ => by decide) (by decide +kernel) op
  exact eq_of_beq this
theorem num_t (op : Int) (h : known op = true) : decide (numF op = 116) = decide (op = 49) := by
  have := info_all (fun op _ f k => !k || (decide ((splitF f).2 = 116) == decide (op = 49))) (fun _ => by simp) (by decide +kernel) op
  rw [h] at this
  rw [decide_eq_decide]
  simpa [numF] using this
theorem known_fields (op : Int) : (fieldsOf op).isEmpty = !known op := by
  have := info_all (fun _ _ f k => f.isEmpty == !k) (fun _ => by decide) (by decide +kernel) op
  exact eq_of_beq this
theorem has_ev98 (op : Int) : Ev (fun k => S.jacquardref18_has.f k op 98) (decide (numF op = 98)) := by
  rw [← mem_b]
  exact rhas_ev op 98
theorem bs_tolist (l : List UInt8) : (bs l).toList = l := by simp [bs]

theorem shape_loop (m : M) (hs : m.args.length ≤ 1000000) : ∀ (d i : Nat), i + d = m.args.length →
    Ev (fun k => S.jacquardref18_Shape.l0 k (i : Int) m.op m.d m.e m.a m.b m.c m.imm m.args) (counts i (m.args.drop i) && decide (m.args.length ≤ 4) && m.d == 0)
  | 0, i, hd => by
    refine Ev.step (f := fun _ => some (decide (m.args.length ≤ 4) && m.d == 0)) (fun k => ?_) (by rw [List.drop_of_length_le (by omega)]; simpa [counts] using Ev.now (decide (m.args.length ≤ 4) && m.d == 0))
    simp only [S.jacquardref18_Shape.l0]
    rw [if_neg (by omega)]
    by_cases h4 : m.args.length ≤ 4
    · rw [if_pos (by omega)]
      simp [h4]
    · rw [if_neg (by omega)]
      simp [h4]
  | d + 1, i, hd => by
    have hi : i < m.args.length := by omega
    have ih := shape_loop m hs d (i + 1) (by omega)
    have e1 : Go.Proofs.YtmoplcchiadlpaaDoorW.PrintWords.rd m.args (i : Int) = m.args[i] := by unfold Go.Proofs.YtmoplcchiadlpaaDoorW.PrintWords.rd; simp [hi]
    rw [List.drop_eq_getElem_cons hi]
    by_cases hx : m.args[i] = (i : Int)
    · refine Ev.step (f := fun k => S.jacquardref18_Shape.l0 k ((i + 1 : Nat) : Int) m.op m.d m.e m.a m.b m.c m.imm m.args) (fun k => ?_) ?_
      · simp only [S.jacquardref18_Shape.l0]
        rw [if_pos (by omega), if_pos (by omega), e1, if_pos hx, wrap_nat (by omega)]
      · simp only [counts, hx, beq_self_eq_true, Bool.true_and]
        exact ih
    · refine Ev.step (f := fun _ => some false) (fun k => ?_) (by
        have e : (counts i (m.args[i] :: m.args.drop (i + 1)) && decide (m.args.length ≤ 4) && m.d == 0) = false := by simp [counts, hx]
        rw [e]
        exact Ev.now _)
      simp only [S.jacquardref18_Shape.l0]
      rw [if_pos (by omega), if_pos (by omega), e1, if_neg hx]
theorem shape_ev (m : M) (hs : m.args.length ≤ 1000000) : Ev (fun k => S.jacquardref18_Shape.f k m.op m.d m.e m.a m.b m.c m.imm m.args) (shapeOk m) := by
  unfold S.jacquardref18_Shape.f
  refine Ev.bind (fields_ev m.op) ?_
  have hk := known_fields m.op
  rw [bs_tolist]
  unfold shapeOk
  cases hkn : known m.op
  · rw [hkn] at hk
    have : fieldsOf m.op = [] := by simpa using hk
    simp only [this, if_true, Bool.false_and]
    exact Ev.now _
  rw [hkn] at hk
  have hne : ¬ fieldsOf m.op = [] := by simpa using hk
  simp only [if_neg hne, Bool.true_and]
  by_cases h28 : m.op = 28
  · simp only [if_pos h28]
    have h := shape_loop m hs m.args.length 0 (by omega)
    simpa [Bool.and_assoc] using h
  simp only [if_neg h28]
  by_cases h29 : m.op = 29
  · simp only [if_pos h29]
    by_cases hd : m.d = 0
    · simp only [if_pos hd]
      simpa [hd] using Ev.now (m.e == 1)
    · simp only [if_neg hd]
      have e : (m.d == 0) = false := by simpa using hd
      rw [e, Bool.false_and]
      exact Ev.now _
  simp only [if_neg h29]
  have ht := num_t m.op hkn
  by_cases h49 : m.op = 49
  · simp only [if_pos h49]
    have h116 : numF m.op = 116 := by simpa [h49] using ht
    simp only [if_neg (show ¬ (numF m.op = 98 ∨ m.op = 50) by rw [h116, h49]; decide), if_pos h116]
    by_cases h2 : 2 ≤ m.args.length
    · simp only [if_pos (show (m.args.length : Int) ≥ 2 by omega)]
      have e : (decide (2 ≤ m.args.length) && decide (m.args.length ≤ 65)) = decide ((m.args.length : Int) ≤ 65) := by
        rw [decide_eq_true h2, Bool.true_and, decide_eq_decide]
        omega
      rw [e]
      exact Ev.now _
    · simp only [if_neg (show ¬ (m.args.length : Int) ≥ 2 by omega)]
      rw [decide_eq_false h2]
      exact Ev.now _
  simp only [if_neg h49]
  have h116 : ¬ numF m.op = 116 := by simpa [h49] using ht
  refine Ev.bind (has_ev98 m.op) ?_
  rw [if_neg h116]
  have hor : (if m.e = 0 then some true else some (m.e == 1)) = some (m.e == 0 || m.e == 1) := by
    by_cases he : m.e = 0
    · simp [he]
    · simp [he]
  by_cases h98 : numF m.op = 98
  · simp only [h98, decide_true, if_true, true_or, hor]
    exact Ev.now _
  · by_cases h50 : m.op = 50
    · simp only [h98, decide_false, h50, if_true, or_true, hor]
      exact Ev.now _
    · simp only [h98, decide_false, h50, if_false, or_self]
      exact Ev.now _

theorem regs_filter (op : Int) : regsF op = (fieldsOf op).filter isReg := by
  have := info_all (fun _ _ f _ => (splitF f).1 == f.filter isReg) (fun _ => by decide) (by decide +kernel) op
  exact eq_of_beq this
theorem regs_loop (m : M) : ∀ (d i : Nat) (acc : List Int), i + d = (fieldsOf m.op).length → acc.length ≤ i →
    Ev (fun k => S.jacquardref18_Regs.l0 k acc (bs (fieldsOf m.op)) (i : Int) m.op m.d m.e m.a m.b m.c m.imm m.args) (acc ++ (((fieldsOf m.op).drop i).filter isReg).map (regVal m))
  | 0, i, acc, hd, ha => by
    have hs := bs_size (fieldsOf m.op)
    refine Ev.step (f := fun _ => some acc) (fun k => ?_) (by rw [List.drop_of_length_le (by omega)]; simpa using Ev.now acc)
    simp only [S.jacquardref18_Regs.l0]
    rw [if_neg (by rw [hs]; omega)]
  | d + 1, i, acc, hd, ha => by
    have hl := fields_short m.op
    have hs := bs_size (fieldsOf m.op)
    have hi : i < (fieldsOf m.op).length := by omega
    have hb : bt (bs (fieldsOf m.op)) (i : Int) = (((fieldsOf m.op)[i]'hi).toNat : Int) := bt_bs _ i hi
    rw [List.drop_eq_getElem_cons hi]
    obtain ⟨x, hx⟩ : ∃ x, (fieldsOf m.op)[i]'hi = x := ⟨_, rfl⟩
    rw [hx] at hb ⊢
    have step : ∀ v, isReg x = true → regVal m x = v → (∀ k, S.jacquardref18_Regs.l0 (k + 1) acc (bs (fieldsOf m.op)) (i : Int) m.op m.d m.e m.a m.b m.c m.imm m.args = S.jacquardref18_Regs.l0 k (acc ++ [v]) (bs (fieldsOf m.op)) ((i + 1 : Nat) : Int) m.op m.d m.e m.a m.b m.c m.imm m.args) →
        Ev (fun k => S.jacquardref18_Regs.l0 k acc (bs (fieldsOf m.op)) (i : Int) m.op m.d m.e m.a m.b m.c m.imm m.args) (acc ++ ((x :: (fieldsOf m.op).drop (i + 1)).filter isReg).map (regVal m)) := fun v h1 h2 h3 => by
      refine Ev.step h3 ?_
      have e : acc ++ ((x :: (fieldsOf m.op).drop (i + 1)).filter isReg).map (regVal m) = (acc ++ [v]) ++ (((fieldsOf m.op).drop (i + 1)).filter isReg).map (regVal m) := by
        rw [List.filter_cons_of_pos h1, List.map_cons, h2, List.append_assoc]
        rfl
      rw [e]
      exact regs_loop m d (i + 1) (acc ++ [v]) (by omega) (by simp; omega)
    have c1 : (i : Int) < ((bs (fieldsOf m.op)).size : Int) := by rw [hs]; omega
    have c2 : (0 : Int) ≤ (i : Int) := by omega
    have c3 : acc.length < 17592186044416 := by omega
    have c4 := wrap_nat (n := i) (by omega)
    by_cases h68 : x = 68
    · subst h68
      refine step m.d rfl rfl fun k => ?_
      simp only [S.jacquardref18_Regs.l0]
      rw [if_pos c1, if_pos c2, hb, if_pos (by decide), if_pos c3, c4]
    by_cases h65 : x = 65
    · subst h65
      refine step m.a rfl rfl fun k => ?_
      simp only [S.jacquardref18_Regs.l0]
      rw [if_pos c1, if_pos c2, hb, if_neg (by decide), if_pos (by decide), if_pos c3, c4]
    by_cases h66 : x = 66
    · subst h66
      refine step m.b rfl rfl fun k => ?_
      simp only [S.jacquardref18_Regs.l0]
      rw [if_pos c1, if_pos c2, hb, if_neg (by decide), if_neg (by decide), if_pos (by decide), if_pos c3, c4]
    by_cases h67 : x = 67
    · subst h67
      refine step m.c rfl rfl fun k => ?_
      simp only [S.jacquardref18_Regs.l0]
      rw [if_pos c1, if_pos c2, hb, if_neg (by decide), if_neg (by decide), if_neg (by decide), if_pos (by decide), if_pos c3, c4]
    have hn : ¬ isReg x = true := by simp [isReg, h68, h65, h66, h67]
    rw [List.filter_cons_of_neg hn]
    refine Ev.step (f := fun k => S.jacquardref18_Regs.l0 k acc (bs (fieldsOf m.op)) ((i + 1 : Nat) : Int) m.op m.d m.e m.a m.b m.c m.imm m.args) (fun k => ?_) (regs_loop m d (i + 1) acc (by omega) (by omega))
    have n68 : ¬ ((x.toNat : Int) = 68) := fun h => h68 ((u8_int x 68).mp h)
    have n65 : ¬ ((x.toNat : Int) = 65) := fun h => h65 ((u8_int x 65).mp h)
    have n66 : ¬ ((x.toNat : Int) = 66) := fun h => h66 ((u8_int x 66).mp h)
    have n67 : ¬ ((x.toNat : Int) = 67) := fun h => h67 ((u8_int x 67).mp h)
    simp only [S.jacquardref18_Regs.l0]
    rw [if_pos c1, if_pos c2, hb, if_neg n68, if_neg n65, if_neg n66, if_neg n67, c4]
theorem regs_ev (m : M) : Ev (fun k => S.jacquardref18_Regs.f k m.op m.d m.e m.a m.b m.c m.imm m.args) (valsM m) := by
  unfold S.jacquardref18_Regs.f valsM
  rw [regs_filter]
  refine Ev.bind (fields_ev m.op) ?_
  have h := regs_loop m (fieldsOf m.op).length 0 [] (by omega) (by simp)
  simpa using h

theorem and255 (n : Int) : bits .and .i64 n 255 = n % 256 := by
  have h15 : (BitVec.ofInt 64 255).toNat = 2 ^ 8 - 1 := by decide
  have key : (BitVec.ofInt 64 n &&& BitVec.ofInt 64 255).toNat = (n % ((2 ^ 64 : Nat) : Int)).toNat % 2 ^ 8 := by
    rw [BitVec.toNat_and, BitVec.toNat_ofInt, h15, Nat.and_two_pow_sub_one_eq_mod]
  show IntKind.i64.wrap ((BitVec.ofInt 64 n &&& BitVec.ofInt 64 255).toNat : Nat) = n % 256
  rw [key, IntKind.wrap_i64]
  omega
theorem str_byte (n : Int) (i : Nat) : strOfNums [bits .and .i64 (n / 256 ^ i) 255 % 256] = bs [byteAt n i] := by
  rw [and255, ← str_asInts]
  unfold asInts
  rw [List.map_cons, List.map_nil, byteAt_int]
  congr 2
  omega
theorem bytes_loop (n : Int) (k : Nat) (hk : k ≤ 8) : ∀ (d i : Nat), i + d = k → Ev (fun r => S.jacquardref18_Bytes.l0 r (n / 256 ^ i) (k : Int) (bs (numB n i)) (i : Int)) (bs (numB n k))
  | 0, i, hd => by
    refine Ev.step (f := fun _ => some (bs (numB n i))) (fun r => ?_) (by rw [show k = i by omega]; exact Ev.now _)
    simp only [S.jacquardref18_Bytes.l0]
    rw [if_neg (by omega)]
  | d + 1, i, hd => by
    refine Ev.step (f := fun r => S.jacquardref18_Bytes.l0 r (n / 256 ^ (i + 1)) (k : Int) (bs (numB n (i + 1))) ((i + 1 : Nat) : Int)) (fun r => ?_) (bytes_loop n k hk d (i + 1) (by omega))
    have e1 : n / 256 ^ i / 256 = n / 256 ^ (i + 1) := by
      rw [Int.ediv_ediv_of_nonneg (Int.pow_nonneg (by decide)), Int.pow_succ]
    have e2 : bs [byteAt n i] ++ bs (numB n i) = bs (numB n (i + 1)) := bs_append _ _
    have hs1 := bs_size [byteAt n i]
    have hs2 := bs_size (numB n i)
    have hs3 := numB_length n i
    simp only [S.jacquardref18_Bytes.l0]
    rw [if_pos (by omega)]
    simp only [Option.bind_some, str_byte]
    rw [if_pos (by rw [hs1, hs2, hs3]; simp; omega), e1, e2, wrap_nat (by omega)]
theorem bytes_ev (n : Int) (k : Nat) (hk : k ≤ 8) : Ev (fun r => S.jacquardref18_Bytes.f r n (k : Int)) (bs (numB n k)) := by
  have h := bytes_loop n k hk k 0 (by omega)
  simpa [S.jacquardref18_Bytes.f, numB] using h

/-! The last letter, the number's letter: how they go together. -/
def lastOf (f : List UInt8) : UInt8 := f.getLastD 0
def kinds (op : Int) (f : List UInt8) : Bool :=
  let x := lastOf f; let y := (splitF f).2
  (y == 0 && x != 101 && x != 116 && (ofT x true).1 == 0 && (ofT x false).1 == 0 && op != 28) || (y == 110 && x == 119 && op == 28) || (y == 101 && x == 101 && op != 28) || (y == 116 && x == 116 && op != 28) ||
    (y == x && x != 0 && x != 110 && x != 101 && x != 116 && op != 28 && [true, false].all fun far => ofT x far == (((widthF x far).1 : Int), (widthF x far).2.1, (widthF x far).2.2) && (widthF x far).1 != 0)
theorem kinds_any (op : Int) (h : known op = true) : kinds op (fieldsOf op) = true := by
  have := info_all (fun op _ f k => !k || kinds op f) (fun _ => by simp) (by decide +kernel) op
  rw [h] at this
  simpa using this
/-- What the last letter and the number's letter of an Op may be. -/
theorem kinds_of (op : Int) (h : known op = true) (far : Bool) :
    (numF op = 0 ∧ lastF op ≠ 101 ∧ lastF op ≠ 116 ∧ (ofT (lastF op) far).1 = 0 ∧ op ≠ 28) ∨ (numF op = 110 ∧ lastF op = 119 ∧ op = 28) ∨ (numF op = 101 ∧ lastF op = 101 ∧ op ≠ 28) ∨ (numF op = 116 ∧ lastF op = 116 ∧ op ≠ 28) ∨
    (numF op = lastF op ∧ numF op ≠ 0 ∧ numF op ≠ 110 ∧ numF op ≠ 101 ∧ numF op ≠ 116 ∧ op ≠ 28 ∧ ofT (numF op) far = (((widthF (numF op) far).1 : Int), (widthF (numF op) far).2.1, (widthF (numF op) far).2.2) ∧ (widthF (numF op) far).1 ≠ 0) := by
  have hk := kinds_any op h
  unfold kinds at hk
  change (let x := lastF op; let y := numF op; _) = true at hk
  simp only [Bool.or_eq_true, Bool.and_eq_true, beq_iff_eq, bne_iff_ne, List.all_cons, List.all_nil, Bool.and_true] at hk
  rcases hk with (((⟨⟨⟨⟨⟨h1, h2⟩, h3⟩, h4⟩, h5⟩, h6⟩ | ⟨⟨h1, h2⟩, h3⟩) | ⟨⟨h1, h2⟩, h3⟩) | ⟨⟨h1, h2⟩, h3⟩) | ⟨⟨⟨⟨⟨⟨h1, h2⟩, h3⟩, h4⟩, h5⟩, h6⟩, ⟨h7, h8⟩, h9, h10⟩
  · exact .inl ⟨h1, h2, h3, by cases far <;> assumption, h6⟩
  · exact .inr (.inl ⟨h1, h2, h3⟩)
  · exact .inr (.inr (.inl ⟨h1, h2, h3⟩))
  · exact .inr (.inr (.inr (.inl ⟨h1, h2, h3⟩)))
  · have h1 : numF op = lastF op := h1
    refine .inr (.inr (.inr (.inr ⟨h1, by rw [h1]; exact h2, by rw [h1]; exact h3, by rw [h1]; exact h4, by rw [h1]; exact h5, h6, ?_, ?_⟩)))
    · rw [h1]; cases far <;> assumption
    · rw [h1]; cases far <;> assumption
theorem last_at (op : Int) (h : known op = true) : wrap64 (((bs (fieldsOf op)).size : Int) - 1) = (((fieldsOf op).length - 1 : Nat) : Int) ∧ 0 < (fieldsOf op).length ∧ bt (bs (fieldsOf op)) (wrap64 (((bs (fieldsOf op)).size : Int) - 1)) = ((lastF op).toNat : Int) := by
  have hl := fields_short op
  have hk := known_fields op
  rw [h] at hk
  have hne : fieldsOf op ≠ [] := by simpa using hk
  have h0 : 0 < (fieldsOf op).length := List.length_pos_iff.2 hne
  have hs := bs_size (fieldsOf op)
  have hw : wrap64 (((bs (fieldsOf op)).size : Int) - 1) = (((fieldsOf op).length - 1 : Nat) : Int) := by
    rw [hs]
    unfold wrap64
    omega
  refine ⟨hw, h0, ?_⟩
  rw [hw, bt_bs _ _ (by omega)]
  congr 2
  unfold lastF
  rw [List.getLastD_eq_getLast?, List.getLast?_eq_getElem?, List.getElem?_eq_getElem (by omega)]
  rfl
theorem w64 {n : Int} (h1 : -9223372036854775808 ≤ n) (h2 : n ≤ 9223372036854775807) : wrap64 n = n := by
  unfold wrap64
  omega
theorem shape_known {m : M} (h : shapeOk m = true) : known m.op = true := by
  unfold shapeOk at h
  simp only [Bool.and_eq_true] at h
  exact h.1
theorem far_pick {α : Type} (m : M) (g : Bool → α) : (if decide (numF m.op = 98) = true then g (m.e == 1) else g false) = g (farOf m) := by
  unfold farOf
  cases decide (numF m.op = 98)
  · rfl
  · simp
theorem ofT_le (x : UInt8) (far : Bool) : 0 ≤ (ofT x far).1 ∧ (ofT x far).1 ≤ 4 := by
  unfold ofT
  repeat' split
  all_goals exact ⟨by decide, by decide⟩
theorem u8_lit101 (x : UInt8) : ((x.toNat : Int) = 101) = (x = 101) := u8_int x 101
theorem u8_lit116 (x : UInt8) : ((x.toNat : Int) = 116) = (x = 116) := u8_int x 116
theorem u8_lit98 (x : UInt8) : ((x.toNat : Int) = 98) = (x = 98) := u8_int x 98
theorem size_words (r : Nat) (o : Int) (hr : r ≤ 4) (ho : 0 ≤ o ∧ o ≤ 4) (q : Nat) (hq : (r + 1) / 2 = q) : wrap64 ((r : Int) + 1) = (r : Int) + 1 ∧ wrap64 (Int.tdiv ((r : Int) + 1) 2) = (q : Int) ∧ wrap64 (1 + (q : Int)) = 1 + q ∧ wrap64 (1 + (q : Int) + o) = 1 + q + o ∧ q ≤ 4 := by
  have a0 : Int.tdiv ((r : Int) + 1) 2 = (q : Int) := by
    rw [Int.tdiv_eq_ediv_of_nonneg (by omega)]
    omega
  refine ⟨w64 (by omega) (by omega), ?_, w64 (by omega) (by omega), w64 (by omega) (by omega), by omega⟩
  rw [a0]
  exact w64 (n := (q : Int)) (by omega) (by omega)
theorem size_words2 (q : Nat) (l : Nat) (hq : q ≤ 4) (hl : l ≤ 1000000) : wrap64 (1 + (q : Int) + 4 + 1) = 1 + q + 5 ∧ wrap64 (1 + (q : Int) + 0 + 1) = 1 + q + 1 ∧ wrap64 (1 + (q : Int) + 3 + 1) = 1 + q + 3 + 1 ∧ wrap64 (3 * (l : Int)) = 3 * (l : Int) ∧
    wrap64 (1 + (q : Int) + 3 + 1 + 3 * (l : Int)) = 1 + q + 3 + 1 + 3 * (l : Int) ∧ wrap64 (1 + (q : Int) + 3 + 1 + 3 * (l : Int) - 3) = 1 + q + (1 + 3 * (l : Int)) :=
  ⟨(w64 (by omega) (by omega)).trans (by omega), (w64 (by omega) (by omega)).trans (by omega), w64 (by omega) (by omega), w64 (by omega) (by omega), w64 (by omega) (by omega), (w64 (by omega) (by omega)).trans (by omega)⟩
theorem size_ev (m : M) (hs : m.args.length ≤ 1000000) : Ev (fun k => S.jacquardref18_Size.f k m.op m.d m.e m.a m.b m.c m.imm m.args) (sizeM m) := by
  unfold S.jacquardref18_Size.f
  refine Ev.bind (shape_ev m hs) ?_
  cases hsh : shapeOk m
  · have : sizeM m = 0 := by unfold sizeM; rw [if_pos hsh]
    rw [this]
    exact Ev.now _
  simp only [if_true]
  refine Ev.bind (fields_ev m.op) ?_
  refine Ev.bind (has_ev98 m.op) ?_
  have hkn := shape_known hsh
  refine Ev.congr (fun n => far_pick m fun far => S.jacquardref18_Size.j0 n (bs (fieldsOf m.op)) far m.op m.d m.e m.a m.b m.c m.imm m.args) ?_
  obtain ⟨hw, h0, hb⟩ := last_at m.op hkn
  have hk := kinds_of m.op hkn (farOf m)
  have hrl : (valsM m).length = (regsF m.op).length := valsM_length m
  have hr4 := regs_short m.op
  have ho := ofT_le (lastF m.op) (farOf m)
  have hss := bs_size (fieldsOf m.op)
  refine Ev.next ?_
  simp only [S.jacquardref18_Size.j0]
  simp only [hb, if_pos (show (0 : Int) ≤ wrap64 (((bs (fieldsOf m.op)).size : Int) - 1) by rw [hw]; omega), if_pos (show wrap64 (((bs (fieldsOf m.op)).size : Int) - 1) < ((bs (fieldsOf m.op)).size : Int) by rw [hw, hss]; omega), of_f]
  simp only [Option.bind_some]
  refine Ev.bind (regs_ev m) ?_
  obtain ⟨q, hq⟩ : ∃ q, ((regsF m.op).length + 1) / 2 = q := ⟨_, rfl⟩
  obtain ⟨a1, a2, a3, a4, hq4⟩ := size_words (regsF m.op).length (ofT (lastF m.op) (farOf m)).1 hr4 ho q hq
  rw [← hrl] at a1 a2
  simp only [a1, a2, a3, a4]
  have hsz : sizeM m = 1 + (q : Int) + (if numF m.op = 0 then 0 else if numF m.op = 110 then 5 else if numF m.op = 116 then 1 + 3 * (m.args.length : Int) else ((widthF (numF m.op) (farOf m)).1 : Int)) := by
    unfold sizeM
    rw [if_neg (by rw [hsh]; decide), hq]
  rw [hsz]
  simp only [u8_lit101, u8_lit116]
  obtain ⟨b1, b2, b3, b4, b5, b6⟩ := size_words2 q m.args.length hq4 hs
  have d1 : ¬ (119 : UInt8) = 101 := by decide
  have d2 : ¬ (119 : UInt8) = 116 := by decide
  have d3 : ¬ (110 : UInt8) = 0 := by decide
  have d4 : ¬ (101 : UInt8) = 0 := by decide
  have d5 : ¬ (101 : UInt8) = 110 := by decide
  have d6 : ¬ (101 : UInt8) = 116 := by decide
  have d7 : ¬ (116 : UInt8) = 101 := by decide
  have d8 : ¬ (116 : UInt8) = 0 := by decide
  have d9 : ¬ (116 : UInt8) = 110 := by decide
  have t1 : (ofT 119 (farOf m)).1 = 4 := rfl
  have t2 : (ofT 101 (farOf m)).1 = 0 := rfl
  have t3 : (ofT 116 (farOf m)).1 = 3 := rfl
  have t4 : (((widthF 101 (farOf m)).1 : Nat) : Int) = 1 := rfl
  rcases hk with ⟨h1, h2, h3, h4, h5⟩ | ⟨h1, h2, h3⟩ | ⟨h1, h2, h3⟩ | ⟨h1, h2, h3⟩ | ⟨h1, h2, h3, h4, h5, h6, h7, h8⟩
  · simp only [if_neg h2, if_neg h3, if_neg h5, h4, if_pos h1]
    exact Ev.now _
  · rw [h1, h2]
    simp only [if_pos h3, t1, b1, if_neg d1, if_neg d2, if_neg d3, if_true]
    exact Ev.now _
  · rw [h1, h2]
    simp only [if_neg h3, t2, b2, if_true, if_neg d4, if_neg d5, if_neg d6, t4]
    exact Ev.now _
  · rw [h1, h2]
    simp only [if_neg h3, t3, b3, b4, b5, b6, if_neg d7, if_neg d8, if_neg d9, if_true]
    exact Ev.now _
  · rw [← h1]
    simp only [if_neg h2, if_neg h3, if_neg h4, if_neg h5, if_neg h6, h7]
    exact Ev.now _
end Go.Proofs.YtmoplcchiadlpaaDoor.Jc
end
section
set_option linter.unusedVariables false
set_option linter.unusedSimpArgs false
namespace Go.Proofs.YtmoplcchiadlpaaDoor.Jc
open Go Go.RowKit Go.ChangeMaps Go.Proofs.YtmoplcchiadlpaaDoorW.PrintWords Go.Proofs.YtmoplcchiadlpaaDoorW.PrintLast Go.Proofs.YtmoplcchiadlpaaDoorW.PrintMore

theorem table_loop (m : M) (hs : m.args.length ≤ 1000) : ∀ (d i : Nat) (acc : List UInt8), i + d = m.args.length → acc.length ≤ 2000 + 4 * i →
    Ev (fun k => S.jacquardref18_Put.l2 k (bs acc) (i : Int) m.op m.d m.e m.a m.b m.c m.imm m.args 3 (-8388608) 8388607) (match tableB (m.args.drop i) with | .ok t => (bs (acc ++ t), 0) | .error _ => (⟨#[]⟩, 61))
  | 0, i, acc, hd, ha => by
    rw [List.drop_of_length_le (by omega)]
    refine Ev.step (f := fun _ => some (bs acc, 0)) (fun k => ?_) (by simpa [tableB] using Ev.now (bs acc, (0 : Int)))
    simp only [S.jacquardref18_Put.l2]
    rw [if_neg (by omega)]
  | d + 1, i, acc, hd, ha => by
    have hi : i < m.args.length := by omega
    have e1 : Go.Proofs.YtmoplcchiadlpaaDoorW.PrintWords.rd m.args (i : Int) = m.args[i] := by unfold Go.Proofs.YtmoplcchiadlpaaDoorW.PrintWords.rd; simp [hi]
    rw [List.drop_eq_getElem_cons hi]
    generalize m.args[i] = x at e1
    by_cases hlo : x < -8388608
    · have hf : fitsB x 116 false 61 = .error 61 := if_neg (by intro h; exact absurd h.1 (by show ¬ (-8388608 : Int) ≤ x; omega))
      refine Ev.step (f := fun _ => some ((⟨#[]⟩ : ByteArray), 61)) (fun k => ?_) (by simpa [tableB, hf] using Ev.now ((⟨#[]⟩ : ByteArray), (61 : Int)))
      simp only [S.jacquardref18_Put.l2]
      rw [if_pos (by omega), if_pos (by omega), e1, if_pos hlo]
    by_cases hhi : x > 8388607
    · have hf : fitsB x 116 false 61 = .error 61 := if_neg (by intro h; exact absurd h.2 (by show ¬ x ≤ (8388607 : Int); omega))
      refine Ev.step (f := fun _ => some ((⟨#[]⟩ : ByteArray), 61)) (fun k => ?_) (by simpa [tableB, hf] using Ev.now ((⟨#[]⟩ : ByteArray), (61 : Int)))
      simp only [S.jacquardref18_Put.l2]
      rw [if_pos (by omega), if_pos (by omega), e1, if_neg hlo, if_pos hhi]
    · have hf : fitsB x 116 false 61 = .ok (numB x 3) := if_pos ⟨by show (-8388608 : Int) ≤ x; omega, by show x ≤ (8388607 : Int); omega⟩
      have ih := table_loop m hs d (i + 1) (acc ++ numB x 3) (by omega) (by rw [List.length_append, numB_length]; omega)
      have hsz : (bs acc).size + (bs (numB x 3)).size ≤ 9223372036854775807 := by rw [bs_size, bs_size, numB_length]; omega
      have hap : bs acc ++ bs (numB x 3) = bs (acc ++ numB x 3) := bs_append _ _
      have hw := wrap_nat (n := i) (by omega)
      have hres : (match tableB (x :: m.args.drop (i + 1)) with | .ok t => (bs (acc ++ t), (0 : Int)) | .error _ => (⟨#[]⟩, 61)) = (match tableB (m.args.drop (i + 1)) with | .ok t => (bs (acc ++ numB x 3 ++ t), 0) | .error _ => (⟨#[]⟩, 61)) := by
        simp only [tableB, hf]
        cases tableB (m.args.drop (i + 1)) <;> simp
      rw [hres]
      refine Ev.next ?_
      simp only [S.jacquardref18_Put.l2]
      simp only [if_pos (show (i : Int) < (m.args.length : Int) by omega), if_pos (show (0 : Int) ≤ (i : Int) by omega), e1, if_neg hlo, if_neg hhi]
      refine Ev.bind (bytes_ev x 3 (by omega)) ?_
      simp only [if_pos hsz, hap, hw]
      exact ih

/-- What Put tells of a result. -/
def told (r : Except Int (List UInt8)) : ByteArray × Int := match r with | .ok s => (bs s, 0) | .error e => (⟨#[]⟩, e)
theorem told_put (m : M) : told (put m) = (bs (putS m), putE m) := by
  unfold told putS putE
  cases put m <;> rfl

/-- Behind the registers: the number. -/
theorem tail_ev (m : M) (hin : InR m) (hsh : shapeOk m = true) (s : List UInt8) (hsl : s.length ≤ 1000) (vals : List Int) (i : Nat) (hi : vals.length ≤ i) (hib : i ≤ 1000) :
    Ev (fun k => S.jacquardref18_Put.l1 k (farOf m) (bs s) vals (i : Int) m.op m.d m.e m.a m.b m.c m.imm m.args) (told (match numPart m with | .ok t => .ok (s ++ t) | .error e => .error e)) := by
  have hkn := shape_known hsh
  obtain ⟨hw, h0, hb⟩ := last_at m.op hkn
  have hk := kinds_of m.op hkn (farOf m)
  have hss := bs_size (fieldsOf m.op)
  have himm := hin.imm
  have hwi : wrap64 m.imm = m.imm := w64 (by omega) (by omega)
  have room : ∀ t : List UInt8, t.length ≤ 1000 → (bs s).size + (bs t).size ≤ 9223372036854775807 := fun t ht => by rw [bs_size, bs_size]; omega
  refine Ev.next ?_
  simp only [S.jacquardref18_Put.l1]
  simp only [if_neg (show ¬ (i : Int) < (vals.length : Int) by omega)]
  refine Ev.bind (fields_ev m.op) ?_
  rw [hb]
  simp only [if_pos (show (0 : Int) ≤ wrap64 (((bs (fieldsOf m.op)).size : Int) - 1) by rw [hw]; omega), if_pos (show wrap64 (((bs (fieldsOf m.op)).size : Int) - 1) < ((bs (fieldsOf m.op)).size : Int) by rw [hw, hss]; omega), of_f, Option.bind_some, u8_lit101, u8_lit116, hwi]
  have hj5 : ∀ (b : Bool) (k : Nat) (o lo hi : Int), S.jacquardref18_Put.j5 (k + 1) (bs s) ((lastF m.op).toNat : Int) b m.op m.d m.e m.a m.b m.c m.imm m.args o lo hi = if b = true then (if lastF m.op = 98 then some ((⟨#[]⟩ : ByteArray), 61) else some ((⟨#[]⟩ : ByteArray), 32)) else (if m.op = 28 then ((S.jacquardref18_Bytes.f k (m.args.length : Int) 1).bind fun t153 => (if (bs s).size + t153.size ≤ 9223372036854775807 then ((S.jacquardref18_Bytes.f k m.imm o).bind fun t154 => (if (bs s ++ t153).size + t154.size ≤ 9223372036854775807 then (some ((bs s ++ t153) ++ t154, 0)) else (none))) else (none))) else ((S.jacquardref18_Bytes.f k m.imm o).bind fun t155 => (if (bs s).size + t155.size ≤ 9223372036854775807 then (some (bs s ++ t155, 0)) else (none)))) := fun b k o lo hi => by
    simp only [S.jacquardref18_Put.j5, u8_lit98, hwi]
  rcases hk with ⟨h1, h2, h3, h4, h5⟩ | ⟨h1, h2, h3⟩ | ⟨h1, h2, h3⟩ | ⟨h1, h2, h3⟩ | ⟨h1, h2, h3, h4, h5, h6, h7, h8⟩
  · have hn : numPart m = .ok [] := if_pos h1
    simp only [if_neg h2, if_neg h3, h4, hn, List.append_nil, told, if_true]
    exact Ev.now _
  · have hn : numPart m = .ok (numB m.args.length 1 ++ numB m.imm 4) := by
      unfold numPart
      rw [h1, if_neg (by decide), if_pos rfl]
    have h119 : ofT 119 (farOf m) = (4, -2147483648, 2147483647) := rfl
    rw [hn]
    rw [h2] at hj5 ⊢
    simp only [h119, if_neg (show ¬ (119 : UInt8) = 101 by decide), if_neg (show ¬ (119 : UInt8) = 116 by decide), if_neg (show ¬ (4 : Int) = 0 by decide)]
    simp only [if_neg (show ¬ m.imm < -2147483648 by omega), decide_eq_false (show ¬ m.imm > 2147483647 by omega)]
    refine Ev.next (Ev.congr (fun k => hj5 false k _ _ _) ?_)
    simp only [Bool.false_eq_true, if_false, if_pos h3]
    have r1 := room (numB m.args.length 1) (by rw [numB_length]; omega)
    refine Ev.bind (bytes_ev m.args.length 1 (by omega)) ?_
    simp only [if_pos r1, bs_append]
    refine Ev.bind (bytes_ev m.imm 4 (by omega)) ?_
    simp only [if_pos (show (bs (s ++ numB m.args.length 1)).size + (bs (numB m.imm 4)).size ≤ 9223372036854775807 by rw [bs_size, bs_size, List.length_append, numB_length, numB_length]; omega), told, bs_append, List.append_assoc]
    exact Ev.now _
  · have hn : numPart m = .ok (numB m.e 1) := by
      unfold numPart
      rw [h1, if_neg (by decide), if_neg (by decide), if_pos rfl]
    rw [hn]
    simp only [if_pos h2]
    refine Ev.bind (bytes_ev m.e 1 (by omega)) ?_
    simp only [if_pos (room (numB m.e 1) (by rw [numB_length]; omega)), told, bs_append]
    exact Ev.now _
  · have hn : numPart m = (match tableB m.args with | .ok t => .ok (numB m.args.length 1 ++ t) | .error e => .error e) := by
      unfold numPart
      rw [h1, if_neg (by decide), if_neg (by decide), if_neg (by decide), if_pos rfl]
      rfl
    have hl := shape_116 m hsh h1
    rw [hn, h2]
    simp only [if_neg (show ¬ (116 : UInt8) = 101 by decide), if_true]
    refine Ev.bind (bytes_ev m.args.length 1 (by omega)) ?_
    simp only [if_pos (room (numB m.args.length 1) (by rw [numB_length]; omega)), bs_append]
    have h116 : ofT 116 (farOf m) = (3, -8388608, 8388607) := rfl
    rw [h116]
    have h := table_loop m (by omega) m.args.length 0 (s ++ numB m.args.length 1) (by omega) (by rw [List.length_append, numB_length]; omega)
    have e : told (match (match tableB m.args with | .ok t => .ok (numB m.args.length 1 ++ t) | .error e => .error e : Except Int (List UInt8)) with | .ok t => .ok (s ++ t) | .error e => .error e) = (match tableB (m.args.drop 0) with | .ok t => (bs (s ++ numB m.args.length 1 ++ t), 0) | .error _ => (⟨#[]⟩, 61)) := by
      rw [List.drop_zero]
      cases ht : tableB m.args with
      | ok t => simp [told]
      | error k =>
        rw [tableB_err _ _ ht]
        rfl
    rw [e]
    exact h
  · have hn : numPart m = fitsB m.imm (numF m.op) (farOf m) (if numF m.op = 98 then 61 else 32) := by
      unfold numPart
      rw [if_neg h2, if_neg h3, if_neg h4, if_neg h5]
      split
      · rename_i h; rw [h]
      · rfl
    rw [hn]
    rw [← h1] at hj5 ⊢
    simp only [if_neg h4, if_neg h5, h7]
    have hne0 : ¬ ((widthF (numF m.op) (farOf m)).1 : Int) = 0 := by omega
    simp only [if_neg hne0]
    have hw4 := width_le (numF m.op) (farOf m)
    by_cases hfit : (widthF (numF m.op) (farOf m)).2.1 ≤ m.imm ∧ m.imm ≤ (widthF (numF m.op) (farOf m)).2.2
    · rw [show fitsB m.imm (numF m.op) (farOf m) (if numF m.op = 98 then 61 else 32) = .ok (numB m.imm (widthF (numF m.op) (farOf m)).1) from if_pos hfit]
      simp only [if_neg (show ¬ m.imm < (widthF (numF m.op) (farOf m)).2.1 by omega), decide_eq_false (show ¬ m.imm > (widthF (numF m.op) (farOf m)).2.2 by omega)]
      refine Ev.next (Ev.congr (fun k => hj5 false k _ _ _) ?_)
      simp only [Bool.false_eq_true, if_false, if_neg h6]
      refine Ev.bind (bytes_ev m.imm (widthF (numF m.op) (farOf m)).1 (by omega)) ?_
      simp only [if_pos (room (numB m.imm (widthF (numF m.op) (farOf m)).1) (by rw [numB_length]; omega)), told, bs_append]
      exact Ev.now _
    · rw [show fitsB m.imm (numF m.op) (farOf m) (if numF m.op = 98 then 61 else 32) = .error (if numF m.op = 98 then 61 else 32) from if_neg hfit]
      have hfin : Ev (fun k => S.jacquardref18_Put.j5 k (bs s) ((numF m.op).toNat : Int) true m.op m.d m.e m.a m.b m.c m.imm m.args ((widthF (numF m.op) (farOf m)).1 : Int) (widthF (numF m.op) (farOf m)).2.1 (widthF (numF m.op) (farOf m)).2.2) (told (.error (if numF m.op = 98 then 61 else 32))) := by
        refine Ev.next (Ev.congr (fun k => hj5 true k _ _ _) ?_)
        simp only [if_true, told]
        by_cases h98 : numF m.op = 98
        · simp only [if_pos h98]; exact Ev.now _
        · simp only [if_neg h98]; exact Ev.now _
      by_cases hlo : m.imm < (widthF (numF m.op) (farOf m)).2.1
      · simp only [if_pos hlo]
        exact hfin
      · simp only [if_neg hlo, decide_eq_true (show m.imm > (widthF (numF m.op) (farOf m)).2.2 by omega)]
        exact hfin

theorem rd_at (l : List Int) (i : Nat) (h : i < l.length) : Go.Proofs.YtmoplcchiadlpaaDoorW.PrintWords.rd l (i : Int) = l.getD i 0 := by
  unfold Go.Proofs.YtmoplcchiadlpaaDoorW.PrintWords.rd
  simp [h, List.getD_eq_getElem?_getD]
theorem pair_ev (m : M) (hin : InR m) (hsh : shapeOk m = true) (hok : (valsM m).all regOk = true) : ∀ (d i : Nat), (valsM m).length ≤ i + d → i ≤ 100 → i % 2 = 0 →
    Ev (fun k => S.jacquardref18_Put.l1 k (farOf m) (bs (headB m :: pairs ((valsM m).take i))) (valsM m) (i : Int) m.op m.d m.e m.a m.b m.c m.imm m.args) (told (match numPart m with | .ok t => .ok (headB m :: pairs (valsM m) ++ t) | .error e => .error e))
  | 0, i, hd, hb, he => by
    have hp := pairs_short m i
    have h := tail_ev m hin hsh (headB m :: pairs ((valsM m).take i)) (by simp; omega) (valsM m) i (by omega) (by omega)
    rw [List.take_of_length_le (by omega)] at h ⊢
    exact h
  | d + 1, i, hd, hb, he => by
    have hvl := valsM_length m
    have hr4 := regs_short m.op
    by_cases hge : (valsM m).length ≤ i
    · have hp := pairs_short m i
      have h := tail_ev m hin hsh (headB m :: pairs ((valsM m).take i)) (by simp; omega) (valsM m) i (by omega) (by omega)
      rw [List.take_of_length_le (by omega)] at h ⊢
      exact h
    have ih := pair_ev m hin hsh hok d (i + 2) (by omega) (by omega) (by omega)
    have hp := pairs_short m i
    have hall := List.all_eq_true.1 hok
    have hin2 : ∀ j, j < (valsM m).length → 0 ≤ (valsM m).getD j 0 ∧ (valsM m).getD j 0 < 16 := fun j hj => by
      have := hall ((valsM m).getD j 0) (by rw [List.getD_eq_getElem?_getD, List.getElem?_eq_getElem hj]; exact List.getElem_mem hj)
      exact (regOk_iff _).1 this
    have q1 := hin2 i (by omega)
    have w1 : wrap64 ((i : Int) + 1) = ((i + 1 : Nat) : Int) := wrap_nat (by omega)
    have w2 : wrap64 ((i : Int) + 2) = ((i + 2 : Nat) : Int) := by rw [w64 (by omega) (by omega)]; omega
    have w3 : wrap64 (16 * (valsM m).getD i 0) = 16 * (valsM m).getD i 0 := w64 (by omega) (by omega)
    have hroom : ∀ b : List UInt8, b.length ≤ 8 → (bs (headB m :: pairs ((valsM m).take i))).size + (bs b).size ≤ 9223372036854775807 := fun b hb => by
      rw [bs_size, bs_size, List.length_cons]; omega
    by_cases h1 : i + 1 < (valsM m).length
    · have q2 := hin2 (i + 1) h1
      have w4 : wrap64 (16 * (valsM m).getD i 0 + (valsM m).getD (i + 1) 0) = 16 * (valsM m).getD i 0 + (valsM m).getD (i + 1) 0 := w64 (by omega) (by omega)
      refine Ev.next ?_
      simp only [S.jacquardref18_Put.l1]
      simp only [if_pos (show (i : Int) < ((valsM m).length : Int) by omega), w1, if_pos (show ((i + 1 : Nat) : Int) < ((valsM m).length : Int) by omega), if_pos (show (0 : Int) ≤ ((i + 1 : Nat) : Int) by omega), if_pos (show (0 : Int) ≤ (i : Int) by omega), rd_at (valsM m) i (by omega), rd_at (valsM m) (i + 1) h1, w3, w4, w2]
      refine Ev.bind (bytes_ev _ 1 (by omega)) ?_
      simp only [if_pos (hroom (numB (16 * (valsM m).getD i 0 + (valsM m).getD (i + 1) 0) 1) (by rw [numB_length]; omega)), bs_append]
      have e : headB m :: pairs ((valsM m).take i) ++ numB (16 * (valsM m).getD i 0 + (valsM m).getD (i + 1) 0) 1 = headB m :: pairs ((valsM m).take (i + 2)) := by
        rw [pairs_two _ i h1 he]; rfl
      rw [e]
      exact ih
    · refine Ev.next ?_
      simp only [S.jacquardref18_Put.l1]
      simp only [if_pos (show (i : Int) < ((valsM m).length : Int) by omega), w1, if_neg (show ¬ ((i + 1 : Nat) : Int) < ((valsM m).length : Int) by omega), if_pos (show (0 : Int) ≤ (i : Int) by omega), rd_at (valsM m) i (by omega), w3, w3, w2]
      refine Ev.bind (bytes_ev _ 1 (by omega)) ?_
      simp only [if_pos (hroom (numB (16 * (valsM m).getD i 0) 1) (by rw [numB_length]; omega)), bs_append]
      have e : headB m :: pairs ((valsM m).take i) ++ numB (16 * (valsM m).getD i 0) 1 = headB m :: pairs ((valsM m).take (i + 2)) := by
        rw [pairs_last _ i (by omega) he, Int.add_zero]; rfl
      rw [e]
      exact ih
theorem check_ev (m : M) (hin : InR m) (hsh : shapeOk m = true) : ∀ (d i : Nat), i + d = (valsM m).length → ((valsM m).take i).all regOk = true →
    Ev (fun k => S.jacquardref18_Put.l0 k (farOf m) (bs [headB m]) (valsM m) (i : Int) m.op m.d m.e m.a m.b m.c m.imm m.args) (told (put m))
  | 0, i, hd, hok => by
    have hok2 : (valsM m).all regOk = true := by rw [List.take_of_length_le (by omega)] at hok; exact hok
    have hput : put m = match numPart m with | .ok s => .ok (headB m :: (pairs (valsM m) ++ s)) | .error e => .error e := by
      unfold put
      rw [if_neg (by rw [hsh]; decide), if_neg (show ¬ ((regsF m.op).map (regVal m)).all regOk = false by rw [show (regsF m.op).map (regVal m) = valsM m from rfl, hok2]; decide)]
      rfl
    have h := pair_ev m hin hsh hok2 (valsM m).length 0 (by omega) (by omega) rfl
    rw [hput]
    refine Ev.next ?_
    simp only [S.jacquardref18_Put.l0]
    simp only [if_neg (show ¬ (i : Int) < ((valsM m).length : Int) by omega)]
    simpa [pairs] using h
  | d + 1, i, hd, hok => by
    have hi : i < (valsM m).length := by omega
    have hr4 := regs_short m.op
    have hvl := valsM_length m
    have e1 := rd_at (valsM m) i hi
    have hsn := all_take_snoc (valsM m) i hi
    have hbad : regOk ((valsM m).getD i 0) = false → told (put m) = (⟨#[]⟩, 31) := fun h => by
      rw [put_reg m (i + 1) hsh (by rw [hsn, h, Bool.and_false])]
      rfl
    by_cases hlo : (valsM m).getD i 0 < 0
    · rw [hbad (by unfold regOk; rw [Bool.and_eq_false_iff]; exact .inl (decide_eq_false (by omega)))]
      refine Ev.step (f := fun _ => some ((⟨#[]⟩ : ByteArray), 31)) (fun k => ?_) (Ev.now _)
      simp only [S.jacquardref18_Put.l0]
      rw [if_pos (by omega), if_pos (by omega), e1, if_pos hlo]
    by_cases hhi : (valsM m).getD i 0 > 15
    · rw [hbad (by unfold regOk; rw [Bool.and_eq_false_iff]; exact .inr (decide_eq_false (by omega)))]
      refine Ev.step (f := fun _ => some ((⟨#[]⟩ : ByteArray), 31)) (fun k => ?_) (Ev.now _)
      simp only [S.jacquardref18_Put.l0]
      rw [if_pos (by omega), if_pos (by omega), e1, if_neg hlo, if_pos hhi]
    · have hr : regOk ((valsM m).getD i 0) = true := (regOk_iff _).2 ⟨by omega, by omega⟩
      refine Ev.step (f := fun k => S.jacquardref18_Put.l0 k (farOf m) (bs [headB m]) (valsM m) ((i + 1 : Nat) : Int) m.op m.d m.e m.a m.b m.c m.imm m.args) (fun k => ?_) (check_ev m hin hsh d (i + 1) (by omega) (by rw [hsn, hok, hr]; rfl))
      simp only [S.jacquardref18_Put.l0]
      rw [if_pos (by omega), if_pos (by omega), e1, if_neg hlo, if_neg hhi, wrap_nat (by omega)]
theorem put_ev (m : M) (hin : InR m) : Ev (fun k => S.jacquardref18_Put.f k m.op m.d m.e m.a m.b m.c m.imm m.args) (bs (putS m), putE m) := by
  rw [← told_put]
  unfold S.jacquardref18_Put.f
  refine Ev.bind (shape_ev m hin.few) ?_
  cases hsh : shapeOk m
  · have : put m = .error 30 := if_pos hsh
    rw [this]
    exact Ev.now _
  simp only [if_true]
  refine Ev.bind (has_ev98 m.op) ?_
  refine Ev.congr (fun n => far_pick m fun far => S.jacquardref18_Put.j0 n far m.op m.d m.e m.a m.b m.c m.imm m.args) ?_
  have hop := op_known m.op (shape_known hsh)
  have hw : wrap64 (m.op + 128) = m.op + 128 := w64 (by omega) (by omega)
  have h := check_ev m hin hsh (valsM m).length 0 (by omega) rfl
  refine Ev.next ?_
  simp only [S.jacquardref18_Put.j0, hw]
  refine Ev.bind (bytes_ev m.op 1 (by omega)) ?_
  cases hf : farOf m
  · have hh : headB m = byteAt m.op 0 := by unfold headB; rw [hf]; simp
    simp only [Bool.false_eq_true, if_false]
    refine Ev.next ?_
    simp only [S.jacquardref18_Put.j1]
    refine Ev.bind (regs_ev m) ?_
    rw [hf, hh] at h
    exact h
  · have hh : headB m = byteAt (m.op + 128) 0 := by unfold headB; rw [hf]; rfl
    simp only [if_true]
    refine Ev.bind (bytes_ev (m.op + 128) 1 (by omega)) ?_
    refine Ev.next ?_
    simp only [S.jacquardref18_Put.j1]
    refine Ev.bind (regs_ev m) ?_
    rw [hf, hh] at h
    exact h

/-! The contracts. -/
theorem rsize_any (m : M) (hs : m.args.length ≤ 1000000) (a : Option Addr) (c : Nat) (w : World) (har : ArgsIn w m a c) : Calls Tryd.prog 20 #[.agg (cellsM m a c)] w fun e w' => e = .returned (.int .i64 (sizeM m)) ∧ Below w.heap.size w w' := by
  obtain ⟨k, hk⟩ := (size_ev m hs).rounds
  exact S.jacquardref18_Size.calls k m.op m.d m.e m.a m.b m.c m.imm a c m.args _ w (Kd.C_of_reads (d := (0 : Int)) (readsInt_of.1 har.reads)) har.cap hk
theorem rput_any (m : M) (hin : InR m) (a : Option Addr) (c : Nat) (w : World) (har : ArgsIn w m a c) : Calls Tryd.prog 18 #[.agg (cellsM m a c)] w fun e w' => e = .returned (.tuple #[.string (bs (putS m)), .int .i64 (putE m)]) ∧ Below w.heap.size w w' := by
  obtain ⟨k, hk⟩ := (put_ev m hin).rounds
  exact S.jacquardref18_Put.calls k m.op m.d m.e m.a m.b m.c m.imm a c m.args _ _ w (Kd.C_of_reads (d := (0 : Int)) (readsInt_of.1 har.reads)) har.cap hk
end Go.Proofs.YtmoplcchiadlpaaDoor.Jc
end
section
set_option linter.unusedVariables false
set_option linter.unusedSimpArgs false
namespace Go.Proofs.YtmoplcchiadlpaaDoor.Jc
open Go Go.RowKit Go.ChangeMaps Go.Proofs.YtmoplcchiadlpaaDoorW.PrintWords Go.Proofs.YtmoplcchiadlpaaDoorW.PrintLast Go.Proofs.YtmoplcchiadlpaaDoorW.PrintMore

theorem dec_len (u : Nat) (h : u ≤ 9223372036854775807) : (Lib.decDigits u).length ≤ 21 := by
  have h := Lib.itoa_length_le (u : Int) (by omega) (by omega)
  rwa [Lib.itoa_nonneg] at h
theorem digit_byte (u : Nat) (h : u ≤ 9223372036854775807) : strOfNums [wrap64 (48 + Int.tmod (u : Int) 10) % 256] = bs [UInt8.ofNat (48 + u % 10)] := by
  rw [← str_asInts]
  unfold asInts
  rw [List.map_cons, List.map_nil]
  congr 2
  rw [UInt8.toNat_ofNat', Int.tmod_eq_emod_of_nonneg (by omega)]
  unfold wrap64
  omega
theorem digits_nat : ∀ u : Nat, u ≤ 9223372036854775807 → Ev (fun k => S.jacquardref18_digits.f k (u : Int)) (bs (Lib.decDigits u)) := by
  intro u
  induction u using Nat.strongRecOn with
  | _ u ih =>
    intro hu
    have hb := digit_byte u hu
    have hn : ¬ (u : Int) < 0 := by omega
    refine Ev.next ?_
    simp only [S.jacquardref18_digits.f, if_neg hn, Option.bind_some, hb]
    by_cases h10 : u < 10
    · have h1 : ¬ (u : Int) ≥ 10 := by omega
      simp only [if_neg h1]
      rw [Lib.decDigits, dif_pos h10, show u % 10 = u by omega]
      exact Ev.now _
    · have h1 : (u : Int) ≥ 10 := by omega
      have e : wrap64 (Int.tdiv (u : Int) 10) = ((u / 10 : Nat) : Int) := by
        rw [Int.tdiv_eq_ediv_of_nonneg (by omega)]
        unfold wrap64
        omega
      simp only [if_pos h1, e]
      rw [Lib.decDigits, dif_neg h10]
      refine Ev.bind (ih (u / 10) (by omega) (by omega)) ?_
      have hl := dec_len (u / 10) (by omega)
      have hsz : (bs (Lib.decDigits (u / 10))).size + (bs [UInt8.ofNat (48 + u % 10)]).size ≤ 9223372036854775807 := by
        rw [bs_size, bs_size]
        simp
        omega
      simp only [if_pos hsz, bs_append]
      exact Ev.now _
theorem digits_ev (n : Int) (h0 : -9223372036854775807 ≤ n) (h1 : n ≤ 9223372036854775807) : Ev (fun k => S.jacquardref18_digits.f k n) (bs (Lib.itoa n)) := by
  by_cases hn : n < 0
  · have e : wrap64 (-n) = ((-n).toNat : Int) := by unfold wrap64; omega
    refine Ev.next ?_
    simp only [S.jacquardref18_digits.f, if_pos hn, e]
    refine Ev.bind (digits_nat (-n).toNat (by omega)) ?_
    have hl := dec_len (-n).toNat (by omega)
    have hsz : 1 + (bs (Lib.decDigits (-n).toNat)).size ≤ 9223372036854775807 := by rw [bs_size]; omega
    have ei : Lib.itoa n = 45 :: Lib.decDigits (-n).toNat := by
      unfold Lib.itoa
      rw [if_pos hn, show n.natAbs = (-n).toNat by omega]
    have ea : (⟨#[45]⟩ : ByteArray) ++ bs (Lib.decDigits (-n).toNat) = bs (Lib.itoa n) := by
      rw [ei]
      exact bs_append [45] _
    simp only [if_pos hsz, ea]
    exact Ev.now _
  · have h := digits_nat n.toNat (by omega)
    rw [Int.toNat_of_nonneg (by omega)] at h
    unfold Lib.itoa
    rw [if_neg hn]
    exact h
theorem whole_ev (n : Int) (h : In64 n) : Ev (fun k => S.jacquardref18_whole.f k n) (bs (Lib.itoa n)) := by
  unfold S.jacquardref18_whole.f
  by_cases hm : n = -9223372036854775808
  · simp only [if_pos hm]
    have e : Lib.itoa n = [45, 57, 50, 50, 51, 51, 55, 50, 48, 51, 54, 56, 53, 52, 55, 55, 53, 56, 48, 56] := by
      rw [hm]
      unfold Lib.itoa
      rw [if_pos (by decide)]
      simp [Lib.decDigits]
    rw [e]
    exact Ev.now _
  · simp only [if_neg hm]
    refine Ev.bind (digits_ev n (by have := h.1; omega) h.2) ?_
    exact Ev.now _
theorem join_space (p : List UInt8) : ∀ ps : List (List UInt8), Lib.join (p :: ps) [32] = p ++ (ps.map fun q => 32 :: q).flatten
  | [] => by simp [Lib.join, List.intercalate]
  | q :: r => by
    have h := join_space q r
    have e : Lib.join (p :: q :: r) [32] = p ++ (32 :: Lib.join (q :: r) [32]) := by
      simp [Lib.join, List.intercalate, List.intersperse]
    rw [e, h]
    simp

def spaced (ps : List (List UInt8)) : List UInt8 := (ps.map fun q => 32 :: q).flatten
theorem spaced_append (a b : List (List UInt8)) : spaced (a ++ b) = spaced a ++ spaced b := by simp [spaced]
theorem arg_loop (m : M) (hin : InR m) (hl : m.args.length ≤ 1000) : ∀ (d i : Nat) (acc : List UInt8), i + d = m.args.length → acc.length ≤ 1000 + 30 * i →
    Ev (fun k => S.jacquardref18_Text.l1 k (bs acc) (i : Int) m.op m.d m.e m.a m.b m.c m.imm m.args) (bs (acc ++ spaced ((m.args.drop i).map Lib.itoa)))
  | 0, i, acc, hd, ha => by
    refine Ev.step (f := fun _ => some (bs acc)) (fun k => ?_) (by rw [List.drop_of_length_le (by omega)]; simpa [spaced] using Ev.now (bs acc))
    simp only [S.jacquardref18_Text.l1]
    rw [if_neg (by omega)]
  | d + 1, i, acc, hd, ha => by
    have hi : i < m.args.length := by omega
    have e1 : Go.Proofs.YtmoplcchiadlpaaDoorW.PrintWords.rd m.args (i : Int) = m.args[i] := by unfold Go.Proofs.YtmoplcchiadlpaaDoorW.PrintWords.rd; simp [hi]
    have hx : In64 m.args[i] := hin.args _ (List.getElem_mem hi)
    rw [List.drop_eq_getElem_cons hi]
    generalize m.args[i] = x at e1 hx
    have hxl := itoa_le x hx
    have hw := wrap_nat (n := i) (by omega)
    have hlt : (i : Int) < (m.args.length : Int) := by omega
    have h0 : (0 : Int) ≤ (i : Int) := by omega
    have hd2 : i + 1 + d = m.args.length := by omega
    have hl2 : (acc ++ 32 :: Lib.itoa x).length ≤ 1000 + 30 * (i + 1) := by rw [List.length_append, List.length_cons]; omega
    have z1 : (bs acc).size + 1 ≤ 9223372036854775807 := by rw [bs_size]; omega
    have z2 : ((bs acc) ++ (⟨#[32]⟩ : ByteArray)).size + (bs (Lib.itoa x)).size ≤ 9223372036854775807 := by
      rw [show (⟨#[32]⟩ : ByteArray) = bs [32] from rfl, bs_append, bs_size, bs_size, List.length_append]
      simp
      omega
    have ea : ((bs acc) ++ (⟨#[32]⟩ : ByteArray)) ++ bs (Lib.itoa x) = bs (acc ++ 32 :: Lib.itoa x) := by
      rw [show (⟨#[32]⟩ : ByteArray) = bs [32] from rfl, bs_append, bs_append]
      simp
    refine Ev.next ?_
    simp only [S.jacquardref18_Text.l1]
    simp only [if_pos hlt, if_pos z1, if_pos h0, e1]
    refine Ev.bind (whole_ev x hx) ?_
    simp only [if_pos z2, ea, hw]
    have ih := arg_loop m hin hl d (i + 1) (acc ++ 32 :: Lib.itoa x) hd2 hl2
    have e : acc ++ spaced ((x :: m.args.drop (i + 1)).map Lib.itoa) = (acc ++ 32 :: Lib.itoa x) ++ spaced ((m.args.drop (i + 1)).map Lib.itoa) := by simp [spaced]
    rw [e]
    exact ih
theorem num_ev (m : M) (hin : InR m) (hsh : shapeOk m = true) (s : List UInt8) (hsl : s.length ≤ 900) (vals : List Int) (i : Nat) (hi : vals.length ≤ i) (hib : i ≤ 1000) :
    Ev (fun k => S.jacquardref18_Text.l0 k (bs s) vals (i : Int) m.op m.d m.e m.a m.b m.c m.imm m.args) (bs (s ++ spaced (numTexts m))) := by
  have hkn := shape_known hsh
  obtain ⟨hw, h0, hb⟩ := last_at m.op hkn
  have hk := kinds_of m.op hkn false
  have hss := bs_size (fieldsOf m.op)
  have himm := hin.imm
  have hwi : wrap64 m.imm = m.imm := w64 (by omega) (by omega)
  have hil := itoa_le m.imm ⟨by omega, by omega⟩
  have hlt : ¬ (i : Int) < (vals.length : Int) := by omega
  have q1 : (0 : Int) ≤ wrap64 (((bs (fieldsOf m.op)).size : Int) - 1) := by rw [hw]; omega
  have q2 : wrap64 (((bs (fieldsOf m.op)).size : Int) - 1) < ((bs (fieldsOf m.op)).size : Int) := by rw [hw, hss]; omega
  have z1 : (bs s).size + 1 ≤ 9223372036854775807 := by rw [bs_size]; omega
  have sp : bs s ++ (⟨#[32]⟩ : ByteArray) = bs (s ++ [32]) := bs_append s [32]
  refine Ev.next ?_
  simp only [S.jacquardref18_Text.l0]
  simp only [if_neg hlt]
  refine Ev.bind (fields_ev m.op) ?_
  simp only [if_pos q1, if_pos q2, hb, of_f, Option.bind_some, u8_lit101, u8_lit116, hwi, if_pos z1, sp]
  rcases hk with ⟨h1, h2, h3, h4, h5⟩ | ⟨h1, h2, h3⟩ | ⟨h1, h2, h3⟩ | ⟨h1, h2, h3⟩ | ⟨h1, h2, h3, h4, h5, h6, h7, h8⟩
  · have hn : numTexts m = [] := if_pos h1
    simp only [if_neg h2, if_neg h3, if_neg h5, h4, hn, show ¬ (0 : Int) > 0 by decide, if_false]
    simpa [spaced] using Ev.now (bs s)
  · have hn : numTexts m = [Lib.itoa m.args.length, Lib.itoa m.imm] := by
      unfold numTexts
      rw [h1, if_neg (by decide), if_pos rfl]
    have hfew := hin.few
    have hll := itoa_le (m.args.length : Int) ⟨by omega, by omega⟩
    rw [hn, h2]
    simp only [if_neg (show ¬ (119 : UInt8) = 101 by decide), if_neg (show ¬ (119 : UInt8) = 116 by decide), if_pos h3]
    refine Ev.bind (digits_ev (m.args.length : Int) (by omega) (by omega)) ?_
    have z2 : (bs (s ++ [32])).size + (bs (Lib.itoa m.args.length)).size ≤ 9223372036854775807 := by rw [bs_size, bs_size]; simp; omega
    have z3 : (bs (s ++ [32] ++ Lib.itoa m.args.length)).size + 1 ≤ 9223372036854775807 := by rw [bs_size]; simp; omega
    have z4 : (bs (s ++ [32] ++ Lib.itoa m.args.length ++ [32])).size + (bs (Lib.itoa m.imm)).size ≤ 9223372036854775807 := by rw [bs_size, bs_size]; simp; omega
    simp only [if_pos z2, bs_append, if_pos z3]
    refine Ev.bind (digits_ev m.imm (by omega) (by omega)) ?_
    have ea : bs (s ++ [32] ++ Lib.itoa m.args.length) ++ (⟨#[32]⟩ : ByteArray) = bs (s ++ [32] ++ Lib.itoa m.args.length ++ [32]) := bs_append _ [32]
    simp only [ea, if_pos z4, bs_append]
    have e : s ++ spaced [Lib.itoa m.args.length, Lib.itoa m.imm] = s ++ [32] ++ Lib.itoa m.args.length ++ [32] ++ Lib.itoa m.imm := by simp [spaced]
    rw [e]
    exact Ev.now _
  · have hn : numTexts m = if m.e = 1 then [[114, 48]] else [] := by
      unfold numTexts
      rw [h1, if_neg (by decide), if_neg (by decide), if_pos rfl]
    rw [hn]
    simp only [if_pos h2]
    by_cases he : m.e = 1
    · have z2 : (bs s).size + 3 ≤ 9223372036854775807 := by rw [bs_size]; omega
      have ea : bs s ++ (⟨#[32, 114, 48]⟩ : ByteArray) = bs (s ++ [32, 114, 48]) := bs_append s [32, 114, 48]
      simp only [if_pos he, if_pos z2, ea]
      exact Ev.now _
    · simp only [if_neg he]
      simpa [spaced] using Ev.now (bs s)
  · have hn : numTexts m = m.args.map Lib.itoa := by
      unfold numTexts
      rw [h1, if_neg (by decide), if_neg (by decide), if_neg (by decide), if_pos rfl]
    have hl := shape_116 m hsh h1
    rw [hn, h2]
    simp only [if_neg (show ¬ (116 : UInt8) = 101 by decide), if_true]
    have h := arg_loop m hin (by omega) m.args.length 0 s (by omega) (by omega)
    simpa using h
  · have hn : numTexts m = [Lib.itoa m.imm] := by
      unfold numTexts
      rw [if_neg h2, if_neg h3, if_neg h4, if_neg h5]
    have h9 : (((widthF (numF m.op) false).1 : Nat) : Int) > 0 := by omega
    rw [hn, ← h1]
    simp only [if_neg h4, if_neg h5, if_neg h6, h7, if_pos h9]
    refine Ev.bind (digits_ev m.imm (by omega) (by omega)) ?_
    have z2 : (bs (s ++ [32])).size + (bs (Lib.itoa m.imm)).size ≤ 9223372036854775807 := by rw [bs_size, bs_size]; simp; omega
    simp only [if_pos z2, bs_append]
    have e : s ++ spaced [Lib.itoa m.imm] = s ++ [32] ++ Lib.itoa m.imm := by simp [spaced]
    rw [e]
    exact Ev.now _
theorem regs_text (m : M) (hin : InR m) (hsh : shapeOk m = true) : ∀ (d i : Nat) (acc : List UInt8), i + d = (valsM m).length → acc.length ≤ 100 + 30 * i →
    Ev (fun k => S.jacquardref18_Text.l0 k (bs acc) (valsM m) (i : Int) m.op m.d m.e m.a m.b m.c m.imm m.args) (bs (acc ++ (spaced (((valsM m).drop i).map fun x => 114 :: Lib.itoa x) ++ spaced (numTexts m))))
  | 0, i, acc, hd, ha => by
    have hr4 := regs_short m.op
    have hvl := valsM_length m
    rw [List.drop_of_length_le (by omega)]
    exact num_ev m hin hsh acc (by omega) (valsM m) i (by omega) (by omega)
  | d + 1, i, acc, hd, ha => by
    have hr4 := regs_short m.op
    have hvl := valsM_length m
    have hi : i < (valsM m).length := by omega
    have e1 : Go.Proofs.YtmoplcchiadlpaaDoorW.PrintWords.rd (valsM m) (i : Int) = (valsM m)[i] := by unfold Go.Proofs.YtmoplcchiadlpaaDoorW.PrintWords.rd; simp [hi]
    have hx : In64 (valsM m)[i] := by
      have hmem := List.getElem_mem hi
      unfold valsM at hmem
      obtain ⟨x, _, h⟩ := List.mem_map.1 hmem
      rw [show (valsM m)[i] = regVal m x from h.symm]
      exact reg_in m hin x
    rw [List.drop_eq_getElem_cons hi]
    generalize (valsM m)[i] = x at e1 hx
    have hxl := itoa_le x hx
    have hw := wrap_nat (n := i) (by omega)
    have hlt : (i : Int) < ((valsM m).length : Int) := by omega
    have h0 : (0 : Int) ≤ (i : Int) := by omega
    have hd2 : i + 1 + d = (valsM m).length := by omega
    have hl2 : (acc ++ 32 :: 114 :: Lib.itoa x).length ≤ 100 + 30 * (i + 1) := by rw [List.length_append, List.length_cons, List.length_cons]; omega
    have z1 : (bs acc).size + 2 ≤ 9223372036854775807 := by rw [bs_size]; omega
    have z2 : ((bs acc) ++ (⟨#[32, 114]⟩ : ByteArray)).size + (bs (Lib.itoa x)).size ≤ 9223372036854775807 := by
      rw [show (⟨#[32, 114]⟩ : ByteArray) = bs [32, 114] from rfl, bs_append, bs_size, bs_size, List.length_append]
      simp
      omega
    have ea : ((bs acc) ++ (⟨#[32, 114]⟩ : ByteArray)) ++ bs (Lib.itoa x) = bs (acc ++ 32 :: 114 :: Lib.itoa x) := by
      rw [show (⟨#[32, 114]⟩ : ByteArray) = bs [32, 114] from rfl, bs_append, bs_append]
      simp
    refine Ev.next ?_
    simp only [S.jacquardref18_Text.l0]
    simp only [if_pos hlt, if_pos z1, if_pos h0, e1]
    refine Ev.bind (whole_ev x hx) ?_
    simp only [if_pos z2, ea, hw]
    have ih := regs_text m hin hsh d (i + 1) (acc ++ 32 :: 114 :: Lib.itoa x) hd2 hl2
    have e : acc ++ (spaced ((x :: (valsM m).drop (i + 1)).map fun x => 114 :: Lib.itoa x) ++ spaced (numTexts m)) = (acc ++ 32 :: 114 :: Lib.itoa x) ++ (spaced (((valsM m).drop (i + 1)).map fun x => 114 :: Lib.itoa x) ++ spaced (numTexts m)) := by simp [spaced]
    rw [e]
    exact ih
theorem text_ev (m : M) (hin : InR m) : Ev (fun k => S.jacquardref18_Text.f k m.op m.d m.e m.a m.b m.c m.imm m.args) (bs (textM m)) := by
  unfold S.jacquardref18_Text.f
  refine Ev.bind (shape_ev m hin.few) ?_
  cases hsh : shapeOk m
  · have : textM m = [] := if_pos hsh
    rw [this]
    exact Ev.now _
  have ht : textM m = (nameOf m.op ++ if farOf m then [46, 108] else []) ++ (spaced ((valsM m).map fun x => 114 :: Lib.itoa x) ++ spaced (numTexts m)) := by
    unfold textM
    rw [if_neg (by rw [hsh]; decide)]
    unfold textParts
    rw [join_space, ← spaced_append]
    rfl
  have hnl := name_short m.op
  rw [ht]
  simp only [if_true, S.jacquardref18_Name.f, Option.bind_some]
  refine Ev.bind (has_ev98 m.op) ?_
  refine Ev.congr (fun n => far_pick m fun far => S.jacquardref18_Text.j0 n (bs (nameOf m.op)) far m.op m.d m.e m.a m.b m.c m.imm m.args) ?_
  have key : ∀ s : List UInt8, s.length ≤ 100 → Ev (fun k => S.jacquardref18_Text.j1 k (bs s) m.op m.d m.e m.a m.b m.c m.imm m.args) (bs (s ++ (spaced ((valsM m).map fun x => 114 :: Lib.itoa x) ++ spaced (numTexts m)))) := fun s hs => by
    refine Ev.next ?_
    simp only [S.jacquardref18_Text.j1]
    refine Ev.bind (regs_ev m) ?_
    exact regs_text m hin hsh (valsM m).length 0 s (by omega) (by omega)
  refine Ev.next ?_
  simp only [S.jacquardref18_Text.j0]
  cases hf : farOf m
  · simp only [Bool.false_eq_true, if_false, List.append_nil]
    exact key _ (by omega)
  · have z : (bs (nameOf m.op)).size + 2 ≤ 9223372036854775807 := by rw [bs_size]; omega
    have ea : bs (nameOf m.op) ++ (⟨#[46, 108]⟩ : ByteArray) = bs (nameOf m.op ++ [46, 108]) := bs_append _ [46, 108]
    simp only [if_true, if_pos z, ea]
    exact key _ (by simp; omega)
theorem rtext_any (m : M) (hin : InR m) (a : Option Addr) (c : Nat) (w : World) (har : ArgsIn w m a c) : Calls Tryd.prog 23 #[.agg (cellsM m a c)] w fun e w' => e = .returned (.string (bs (textM m))) ∧ Below w.heap.size w w' := by
  obtain ⟨k, hk⟩ := (text_ev m hin).rounds
  exact S.jacquardref18_Text.calls k m.op m.d m.e m.a m.b m.c m.imm a c m.args _ w (Kd.C_of_reads (d := (0 : Int)) (readsInt_of.1 har.reads)) har.cap hk
end Go.Proofs.YtmoplcchiadlpaaDoor.Jc
end
