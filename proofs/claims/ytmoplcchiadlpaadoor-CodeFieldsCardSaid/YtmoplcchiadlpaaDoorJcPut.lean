/- code.Put: an instruction's bytes, or what is wrong with it. -/
import Derived.Test.YtmoplcchiadlpaaDoorJcPut1
import Derived.Test.YtmoplcchiadlpaaDoorJc1
import Derived.Test.YtmoplcchiadlpaaDoorJcMem2
set_option linter.unusedVariables false
set_option linter.unusedSimpArgs false
namespace Go.Proofs.YtmoplcchiadlpaaDoor.Jc
open Go Go.RowKit Go.ChangeMaps Go.Proofs.YtmoplcchiadlpaaDoorW.PrintWords

def putS (m : M) : List UInt8 := match put m with | .ok s => s | .error _ => []
def putE (m : M) : Int := match put m with | .ok _ => 0 | .error k => k

theorem numPart_err {m : M} {k : Int} (h : numPart m = .error k) : k = 61 ∨ k = 32 := by
  unfold numPart at h
  split at h
  · cases h
  split at h
  · cases h
  split at h
  · cases h
  split at h
  · cases ht : tableB m.args with
    | ok s => rw [ht] at h; cases h
    | error e =>
      rw [ht] at h
      cases h
      exact .inl (tableB_err _ _ ht)
  split at h
  · exact .inl (fitsB_no h).2
  · exact .inr (fitsB_no h).2
theorem put_err {m : M} {k : Int} (h : put m = .error k) : k = 30 ∨ k = 31 ∨ k = 61 ∨ k = 32 := by
  unfold put at h
  split at h
  · cases h; exact .inl rfl
  split at h
  · cases h; exact .inr (.inl rfl)
  · cases hn : numPart m with
    | ok s => rw [hn] at h; cases h
    | error e =>
      rw [hn] at h
      cases h
      exact .inr (.inr (numPart_err hn))

theorem callPut1 (cap : Array Value) (w : World) : (callFunc 31 cap).run Tryd.prog w = .ok (.enter 31 cap) w := by
  kernel_rfl

set_option maxRecDepth 100000 in
set_option maxHeartbeats 4000000 in
theorem put_any (m : M) (hin : InR m) (a : Option Addr) (c : Nat) (w : World) (har : ArgsIn w m a c) (htab : Lib.TabIs Tryd.prog w "strings.asciiSpace" .u8 Lib.asciiSpaceTab) :
    Calls Tryd.prog 14 #[.agg (cellsM m a c)] w fun e w' => e = .returned (.tuple #[.string (bs (putS m)), .int .i64 (putE m)]) ∧ Below w.heap.size w w' := by
  have HT := Lib.hid htab
  have HIN := Lib.hid hin
  have HR := Lib.hid har
  clear har htab hin
  have hcall := Lib.hid callPut1
  go_enter Tryd.func14, Tryd.ntmps14
  go_wp2_with fail
  have hsz : ((w.alloc (.cells (cellsM m a c) 24)).alloc (.cells #[.string ⟨#[]⟩] 9)).heap.size = w.heap.size + 2 := by rw [alloc_size, alloc_size]
  have hi : ((w.alloc (.cells (cellsM m a c) 24)).alloc (.cells #[.string ⟨#[]⟩] 9)).heap[w.heap.size]? = some (.cells (cellsM m a c) 24 (0, 0)) :=
    alloc_old (alloc_at _ _)
  have ho : ((w.alloc (.cells (cellsM m a c) 24)).alloc (.cells #[.string ⟨#[]⟩] 9)).heap[w.heap.size + 1]? = some (.cells #[.string ⟨#[]⟩] 9 (0, 0)) := by
    have h := alloc_at (w.alloc (.cells (cellsM m a c) 24)) (.cells #[.string ⟨#[]⟩] 9)
    rwa [alloc_size] at h
  have hb : Below w.heap.size w ((w.alloc (.cells (cellsM m a c) 24)).alloc (.cells #[.string ⟨#[]⟩] 9)) := below_alloc (below_alloc (Below.refl _ _) _) _
  have hmet : Calls Tryd.prog 30 #[.func (.func 31) #[] #[.pointer (some ⟨w.heap.size, 0, none⟩), .pointer (some ⟨w.heap.size + 1, 0, none⟩)]]
      ((w.alloc (.cells (cellsM m a c) 24)).alloc (.cells #[.string ⟨#[]⟩] 9))
      fun e w' => ∃ s, e = .returned (.int .i64 (putE m)) ∧ Below w.heap.size w w' ∧ w'.heap[w.heap.size + 1]? = some (.cells #[.string s] 9 (0, 0)) ∧ (putE m = 0 → s = bs (putS m)) := by
    generalize (w.alloc (.cells (cellsM m a c) 24)).alloc (.cells #[.string ⟨#[]⟩] 9) = W at hsz hi ho hb ⊢
    refine caught_any _ _ W _ (fun w => callPut1 _ w) ?_
    refine (put1_any m HIN.out a c w.heap.size (w.heap.size + 1) ⟨#[]⟩ (W.alloc (.cells #[.int .i64 0] 27)) (alloc_old hi) (alloc_old ho) (by omega)
      (fun W2 h2 => HR.out.below (grown_low (below_alloc hb _) h2 (by omega))) (tabIs_alloc (tabIs_below HT.out hb) _)).mono ?_
    rintro e w' ⟨hg, hp⟩
    have hE : w'.heap[W.heap.size]? = some (.cells #[.int .i64 0] 27 (0, 0)) := by
      rw [hg.block _ (by rw [alloc_size]; omega) (by simp; omega)]
      exact alloc_at _ _
    have hB2 : Below w.heap.size w w' := grown_low (below_alloc hb _) hg (by omega)
    refine ⟨(cell_blk hE 0).trans rfl, froz_blk hE 0, ?_⟩
    unfold putE putS
    cases hpm : put m with
    | ok s =>
      rw [hpm] at hp
      exact .inl ⟨hp.1, bs s, rfl, below_set hB2 (by omega) _ _, set_other hp.2 (by omega) _ _, fun _ => rfl⟩
    | error k =>
      rw [hpm] at hp
      obtain ⟨h1, s, h2⟩ := hp
      refine .inr ⟨k, h1, s, rfl, below_alloc (below_set hB2 (by omega) _ _) _, alloc_old (set_other h2 (by omega) _ _), fun h0 => ?_⟩
      have h0 : k = 0 := h0
      rcases put_err hpm with h | h | h | h <;> omega
  refine hmet.mono ?_
  rintro e w1 ⟨s, rfl, hB, hO, hs⟩
  have o0 : w1.cell? ⟨w.heap.size + 1, 0, none⟩ = some (.string s) := (cell_blk hO 0).trans rfl
  have HB := Lib.hid hB
  have HS := Lib.hid hs
  clear hmet hi ho hb hsz hB hs hO
  cases hpm : put m with
  | ok t =>
    have he : putE m = 0 := by unfold putE; rw [hpm]
    have HE := Lib.hid he
    rw [HE.out]
    clear he hpm
    go_wp2_with fail
    go_ret2
    exact ⟨by rw [HE.out, HS.out HE.out]; rfl, HB.out⟩
  | error k =>
    have he : putE m = k := by unfold putE; rw [hpm]
    have hs2 : putS m = [] := by unfold putS; rw [hpm]
    have hk : (k == 0) = false := by
      rw [beq_eq_false_iff_ne]
      rcases put_err hpm with h | h | h | h <;> omega
    have HE := Lib.hid he
    have HS2 := Lib.hid hs2
    rw [HE.out]
    clear he hpm hs2
    go_wp2_with fail
    go_ret2
    exact ⟨by rw [HE.out, HS2.out]; rfl, HB.out⟩
end Go.Proofs.YtmoplcchiadlpaaDoor.Jc
