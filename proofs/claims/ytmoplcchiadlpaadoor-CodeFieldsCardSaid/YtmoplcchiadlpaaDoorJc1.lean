/- The contracts of the smallest functions of package code: must, register. -/
import Derived.Test.YtmoplcchiadlpaaDoorProg
import Derived.Test.YtmoplcchiadlpaaDoorWWords
import Derived.WalkKit
import Derived.WalkLawsBesides
import Derived.WalkSpells
import Derived.KernelRfl
import Derived.Defers
import Derived.Recover
import Derived.Lib.Hide
set_option linter.unusedVariables false
set_option linter.unusedSimpArgs false
namespace Go.Proofs.YtmoplcchiadlpaaDoor.Jc
open Go.RowKit Go.Proofs.YtmoplcchiadlpaaDoorW.PrintWords

/-- The panic of package code. -/
def trouble (e : Int) : Value := .iface 86 (.agg #[.int .i64 e])

theorem must_ok (e : Int) (w : World) : Calls Tryd.prog 33 #[.bool true, .int .i64 e] w fun e' w' => e' = .returned (.tuple #[]) ∧ w = w' := by
  go_enter Tryd.func33, Tryd.ntmps33
  go_wp2
  go_end0
  exact ⟨rfl, rfl⟩

theorem must_no (e : Int) (w : World) : Calls Tryd.prog 33 #[.bool false, .int .i64 e] w fun e' w' => e' = .panicked [{ v := trouble e, recovered := false }] ∧ w = w' := by
  go_enter Tryd.func33, Tryd.ntmps33
  go_wp2
  exact ⟨rfl, rfl, rfl⟩

theorem register_at (b : Nat) (c off : Int) (h : (c = 68 ∧ off = 1) ∨ (c = 65 ∧ off = 3) ∨ (c = 66 ∧ off = 4) ∨ (c = 67 ∧ off = 5)) (w : World) :
    Calls Tryd.prog 36 #[.pointer (some ⟨b, 0, none⟩), .int .u8 c] w fun e' w' => e' = .returned (.pointer (some ⟨b, off.toNat, none⟩)) ∧ w = w' := by
  rcases h with ⟨rfl, rfl⟩ | ⟨rfl, rfl⟩ | ⟨rfl, rfl⟩ | ⟨rfl, rfl⟩
  all_goals
    go_enter Tryd.func36, Tryd.ntmps36
    go_wp2
    go_ret
    exact ⟨rfl, rfl⟩

/-! caught: the deferred closure, entered by a frame that panics with our own panic; by one that returns. -/
theorem catch_panicking (b : Nat) (k x : Int) (older : List PanicEntry) (w : World) (hc : w.cell? ⟨b, 0, none⟩ = some (.int .i64 x)) (hz : w.frozen? ⟨b, 0, none⟩ = false) :
    CallsD Tryd.prog 63 #[.pointer (some ⟨b, 0, none⟩)] (.panicking ({ v := trouble k, recovered := false } :: older)) w fun e u' w' =>
      e = .returned (.tuple #[]) ∧ u' = .panicking ({ v := trouble k, recovered := true } :: older) ∧ w' = (w.setCell ⟨b, 0, none⟩ (.int .i64 k)).alloc (.cells #[.int .i64 k] 86) := by
  refine callsD_of_wpS Tryd.func63 rfl fun c₀ cs hu => ?_
  have hb : b < w.heap.size := World.block_lt_of_cell? w ⟨b, 0, none⟩ hc
  have hta : ∀ (v : Value) (W : World), (Instr.typeAssert (.iface 86 v) 20 86 true).run Tryd.prog W = .ok (.tuple #[v, .bool true]) W := fun v W => by simp [Instr.typeAssert, run_underlying Tryd.underlying86]
  simp only [Tryd.ntmps63, List.size_toArray, List.length_cons, List.length_nil, Nat.reduceAdd, Nat.reduceSub, Array.replicate_succ, Array.replicate_zero, List.push_toArray, List.append_toArray, List.nil_append, List.cons_append]
  apply wpS_seq
  apply wpS_region
  simp [wpOpsS, go_sem, recoverD, hu, Exit.thenS, trouble]
  refine wpS_of_wp ?_
  go_wp2
  simp [bodyPostS, results, Tryd.results63]

theorem catch_idle (p : Addr) (w : World) :
    CallsD Tryd.prog 63 #[.pointer (some p)] .returning w fun e u' w' => e = .returned (.tuple #[]) ∧ u' = .returning ∧ w' = w := by
  refine callsD_of_wpS Tryd.func63 rfl fun c₀ cs hu => ?_
  simp only [Tryd.ntmps63, List.size_toArray, List.length_cons, List.length_nil, Nat.reduceAdd, Nat.reduceSub, Array.replicate_succ, Array.replicate_zero, List.push_toArray, List.append_toArray, List.nil_append, List.cons_append]
  apply wpS_seq
  apply wpS_region
  simp [wpOpsS, go_sem, recoverD, hu, Exit.thenS]
  refine wpS_of_wp ?_
  go_wp2
  cases c₀
  simp_all [bodyPostS, results, Tryd.results63]

set_option maxRecDepth 100000 in
/-- caught: what the function value that it is given does, told: no panic, or ours. -/
theorem caught_any (f : Nat) (cap : Array Value) (w : World) (Q : Ending → World → Prop) (hcf : ∀ w, (callFunc f cap).run Tryd.prog w = .ok (.enter f cap) w)
    (hrun : Calls Tryd.prog f cap (w.alloc (.cells #[.int .i64 0] 27)) fun e w' => w'.cell? ⟨w.heap.size, 0, none⟩ = some (.int .i64 0) ∧ w'.frozen? ⟨w.heap.size, 0, none⟩ = false ∧
      ((e = .returned (.tuple #[]) ∧ Q (.returned (.int .i64 0)) (w'.setCell ⟨w.heap.size, 0, none⟩ (.int .i64 0))) ∨
       ∃ k, e = .panicked [{ v := trouble k, recovered := false }] ∧ Q (.returned (.int .i64 k)) ((w'.setCell ⟨w.heap.size, 0, none⟩ (.int .i64 k)).alloc (.cells #[.int .i64 k] 86)))) :
    Calls Tryd.prog 30 #[.func (.func f) #[] cap] w Q := by
  have HR := Lib.hid hrun
  clear hrun
  go_enter_defers Tryd.func30, Tryd.ntmps30
  go_wp2_with fail
  refine HR.out.mono ?_
  rintro e w' ⟨hc, hz, ⟨rfl, hq⟩ | ⟨k, rfl, hq⟩⟩
  · have HQ := Lib.hid hq
    clear hq
    go_wp2_with fail
    refine leaves_cons (f := 63) (args := #[.pointer (some ⟨w.heap.size, 0, none⟩)]) (by simp) (by simp [go_sem]) ?_
    refine (catch_idle _ _).mono ?_
    rintro e u' w'' ⟨rfl, rfl, rfl⟩
    simp [Leaves, settle, results, Tryd.results30, go_sem, hc]
    exact HQ.out
  · have HQ := Lib.hid hq
    clear hq
    refine leaves_cons (f := 63) (args := #[.pointer (some ⟨w.heap.size, 0, none⟩)]) (by simp) (by simp [go_sem]) ?_
    refine (catch_panicking w.heap.size k 0 [] _ hc hz).mono ?_
    rintro e u' w'' ⟨rfl, rfl, rfl⟩
    have hlt : w.heap.size < w'.heap.size := World.block_lt_of_cell? w' ⟨w.heap.size, 0, none⟩ hc
    have hc1 : ((w'.setCell ⟨w.heap.size, 0, none⟩ (.int .i64 k)).alloc (.cells #[.int .i64 k] 86)).cell? ⟨w.heap.size, 0, none⟩ = some (.int .i64 k) := by
      rw [World.cell?_alloc_past _ _ _ (by simpa using hlt)]
      simp [go_sem, hc]
    simp [Leaves, settle, results, Tryd.results30, go_sem, hc1, trouble]
    exact HQ.out
end Go.Proofs.YtmoplcchiadlpaaDoor.Jc
