/- Arguments of a statement, opened: an instruction, a short array of numbers. -/
import Derived.Test.YtmoplcchiadlpaaDoorJcSpec3
import Derived.OpenShut
import Derived.WideShapes
import Derived.ProofKit
set_option linter.unusedVariables false
set_option linter.unusedSimpArgs false
namespace Go.Proofs.YtmoplcchiadlpaaDoor.Jc
open Go Go.RowKit Go.ChangeShapes Go.WideShapes Go.ChangeAt Go.Proofs.YtmoplcchiadlpaaDoorW.PrintWords

set_option maxRecDepth 100000
section
variable {H : Type} {enc : TypeId × Value → H} {w : World} {base : Nat} {held : Bool} {r : Reach} {b0 : Nat} {v : Value} {d : DataW H} {p : List MemPlace}

theorem in64_wf {n : Int} (h : (Lit.int .i64 n).wf = true) : In64 n := by
  simp [Lit.wf, IntKind.min, IntKind.max, IntKind.bits, IntKind.signed] at h
  exact ⟨h.1, by omega⟩
theorem in32_wf {n : Int} (h : (Lit.int .i32 n).wf = true) : -2147483648 ≤ n ∧ n ≤ 2147483647 := by
  simp [Lit.wf, IntKind.min, IntKind.max, IntKind.bits, IntKind.signed] at h
  exact ⟨h.1, by omega⟩

/-- A row of numbers, out of an argument. -/
theorem reads_ints {fuel : Nat} {c : Value} {x : DataW H × List MemPlace} (h : DataW.trod enc Tryd.prog w base (fun _ => true) held fuel 22 [c] = some x) :
    ∃ (a : Option Addr) (k : Nat) (l : List Int), c = .slice a l.length k ∧ ReadsInt w .i64 a l.length l ∧ l.length ≤ k ∧ ∀ y ∈ l, In64 y := by
  rcases open_ints Tryd.underlying22 Tryd.underlying3 (by kernel_rfl) h with ⟨hcs, _⟩ | ⟨x, l, k, zs, hcs, _, hl, hm, hz, _, hcell, hwz⟩
  · simp at hcs
    subst hcs
    exact ⟨none, 0, [], rfl, ReadsInt.nil _ _, Nat.le_refl _, fun y hy => by simp at hy⟩
  · simp at hcs
    subst hcs
    have hzl : zs.length = k := by simpa using hz
    have hlen : (zs.take l).length = l := by rw [List.length_take]; omega
    refine ⟨some x, k, zs.take l, by rw [hlen], ⟨rfl, by rw [hlen]; unfold maxLen at hm; omega, fun _ => ⟨x, rfl, fun j hj => ?_⟩⟩, by omega, fun y hy => in64_wf (hwz y (List.mem_of_mem_take hy))⟩
    rw [hlen] at hj
    rw [hcell j (by omega)]
    simp [List.getD_eq_getElem?_getD, List.getElem?_take, hj]

/-- An instruction, as it came in. -/
theorem open_mach (hv : Value.okWide Tryd.prog w r b0 24 v) (h : DataW.Trod enc Tryd.prog w base (fun _ => true) held 24 v d p) :
    ∃ (m : M) (a : Option Addr) (c : Nat), v = .agg (cellsM m a c) ∧ ArgsIn w m a c ∧ (-2147483648 ≤ m.imm ∧ m.imm ≤ 2147483647) ∧ In64 m.op ∧ In64 m.d ∧ In64 m.e ∧ In64 m.a ∧ In64 m.b ∧ In64 m.c ∧ ∀ x ∈ m.args, In64 x := by
  obtain ⟨cs, rfl, hsz⟩ := okWide_struct Tryd.underlying24 hv
  have hC : Tryd.prog.cellsOf 24 = 8 := by kernel_rfl
  have c3 : Tryd.prog.cellsOf 3 = 1 := by kernel_rfl
  have c21 : Tryd.prog.cellsOf 21 = 1 := by kernel_rfl
  have c22 : Tryd.prog.cellsOf 22 = 1 := by kernel_rfl
  obtain ⟨fuel, hf⟩ := h
  obtain ⟨l⟩ := cs
  have hl : l.length = 8 := by simpa using hsz.trans hC
  match l, hl with
  | [x0, x1, x2, x3, x4, x5, x6, x7], _ =>
    obtain ⟨xs, n, _, _, _, hlen, hx⟩ := DataW.trod_struct Tryd.underlying24 hf
    match xs, hlen with
    | [y0, y1, y2, y3, y4, y5, y6, y7], _ =>
      have g0 : DataW.trod enc Tryd.prog w base (fun _ => true) held n 3 [x0] = some y0 := by simpa [c3, c21, c22, Value.cells] using hx 0 _ rfl
      have g1 : DataW.trod enc Tryd.prog w base (fun _ => true) held n 3 [x1] = some y1 := by simpa [c3, c21, c22, Value.cells] using hx 1 _ rfl
      have g2 : DataW.trod enc Tryd.prog w base (fun _ => true) held n 3 [x2] = some y2 := by simpa [c3, c21, c22, Value.cells] using hx 2 _ rfl
      have g3 : DataW.trod enc Tryd.prog w base (fun _ => true) held n 3 [x3] = some y3 := by simpa [c3, c21, c22, Value.cells] using hx 3 _ rfl
      have g4 : DataW.trod enc Tryd.prog w base (fun _ => true) held n 3 [x4] = some y4 := by simpa [c3, c21, c22, Value.cells] using hx 4 _ rfl
      have g5 : DataW.trod enc Tryd.prog w base (fun _ => true) held n 3 [x5] = some y5 := by simpa [c3, c21, c22, Value.cells] using hx 5 _ rfl
      have g6 : DataW.trod enc Tryd.prog w base (fun _ => true) held n 21 [x6] = some y6 := by simpa [c3, c21, c22, Value.cells] using hx 6 _ rfl
      have g7 : DataW.trod enc Tryd.prog w base (fun _ => true) held n 22 [x7] = some y7 := by simpa [c3, c21, c22, Value.cells] using hx 7 _ rfl
      obtain ⟨n0, e0, _, w0⟩ := DataW.trod_int Tryd.underlying3 g0
      obtain ⟨n1, e1, _, w1⟩ := DataW.trod_int Tryd.underlying3 g1
      obtain ⟨n2, e2, _, w2⟩ := DataW.trod_int Tryd.underlying3 g2
      obtain ⟨n3, e3, _, w3⟩ := DataW.trod_int Tryd.underlying3 g3
      obtain ⟨n4, e4, _, w4⟩ := DataW.trod_int Tryd.underlying3 g4
      obtain ⟨n5, e5, _, w5⟩ := DataW.trod_int Tryd.underlying3 g5
      obtain ⟨n6, e6, _, w6⟩ := DataW.trod_int Tryd.underlying21 g6
      obtain ⟨a, k, l, e7, hr, hk, hl⟩ := reads_ints g7
      simp at e0 e1 e2 e3 e4 e5 e6
      subst e0 e1 e2 e3 e4 e5 e6 e7
      exact ⟨⟨n0, n1, n2, n3, n4, n5, n6, l⟩, a, k, rfl, ⟨hr, hk⟩, in32_wf w6, in64_wf w0, in64_wf w1, in64_wf w2, in64_wf w3, in64_wf w4, in64_wf w5, hl⟩

/-- An array of numbers. -/
theorem open_nums {t : TypeId} {n : Nat} (ht : Tryd.prog.underlying t = some (.array n 3)) (hC : Tryd.prog.cellsOf t = n) (hv : Value.okWide Tryd.prog w r b0 t v) (h : DataW.Trod enc Tryd.prog w base (fun _ => true) held t v d p) :
    ∃ l : List Int, l.length = n ∧ v = .agg (l.map fun x => Value.int .i64 x).toArray ∧ ∀ x ∈ l, In64 x := by
  have hs : ∃ cs, v = .agg cs ∧ cs.size = Tryd.prog.cellsOf t := by
    unfold Value.okWide at hv
    rw [ht] at hv
    obtain ⟨cs, h1, h2, _⟩ := hv
    exact ⟨cs, h1, h2⟩
  obtain ⟨cs, rfl, hsz⟩ := hs
  obtain ⟨fuel, hf⟩ := h
  obtain ⟨xs, m, _, _, _, hlen, hx⟩ := DataW.trod_array ht hf
  have c3 : Tryd.prog.cellsOf 3 = 1 := by kernel_rfl
  rw [hC] at hsz
  obtain ⟨l⟩ := cs
  have hl : l.length = n := by simpa using hsz
  have key : ∀ i, i < n → ∃ z, l[i]? = some (Value.int .i64 z) ∧ In64 z := by
    intro i hi
    have g := hx i hi
    rw [c3, Nat.mul_one] at g
    rw [List.getElem?_eq_getElem (by omega)] at g
    obtain ⟨z, e, _, wz⟩ := DataW.trod_int Tryd.underlying3 g
    refine ⟨z, ?_, in64_wf wz⟩
    have := congrArg (·[0]?) e
    simpa [Value.cells, List.getElem?_take, List.getElem?_drop] using this
  clear hx hf hv
  have all : ∀ (l : List Value), (∀ i, i < l.length → ∃ z, l[i]? = some (Value.int .i64 z) ∧ In64 z) → ∃ zs : List Int, zs.length = l.length ∧ l = zs.map (fun x => Value.int .i64 x) ∧ ∀ x ∈ zs, In64 x := by
    intro l
    induction l with
    | nil => exact fun _ => ⟨[], rfl, rfl, fun x hx => by simp at hx⟩
    | cons c r ih =>
      intro hk
      obtain ⟨z, hz, hw⟩ := hk 0 (by simp)
      obtain ⟨zs, h1, h2, h3⟩ := ih fun i hi => by simpa using hk (i + 1) (by simp; omega)
      simp at hz
      subst hz
      refine ⟨z :: zs, by simp [h1], by simp [← h2], fun x hx => ?_⟩
      rcases List.mem_cons.1 hx with rfl | hx
      · exact hw
      · exact h3 x hx
  obtain ⟨zs, h1, h2, h3⟩ := all l (fun i hi => key i (by omega))
  exact ⟨zs, by omega, by rw [h2], h3⟩
theorem open_nums2 {t : TypeId} (ht : Tryd.prog.underlying t = some (.array 2 3)) (hC : Tryd.prog.cellsOf t = 2) (hv : Value.okWide Tryd.prog w r b0 t v) (h : DataW.Trod enc Tryd.prog w base (fun _ => true) held t v d p) :
    ∃ x0 x1 : Int, v = .agg #[.int .i64 x0, .int .i64 x1] ∧ In64 x0 ∧ In64 x1 := by
  obtain ⟨l, hl, rfl, hw⟩ := open_nums ht hC hv h
  match l, hl with
  | [x0, x1], _ => exact ⟨x0, x1, rfl, hw _ (by simp), hw _ (by simp)⟩
theorem open_nums3 {t : TypeId} (ht : Tryd.prog.underlying t = some (.array 3 3)) (hC : Tryd.prog.cellsOf t = 3) (hv : Value.okWide Tryd.prog w r b0 t v) (h : DataW.Trod enc Tryd.prog w base (fun _ => true) held t v d p) :
    ∃ x0 x1 x2 : Int, v = .agg #[.int .i64 x0, .int .i64 x1, .int .i64 x2] ∧ In64 x0 ∧ In64 x1 ∧ In64 x2 := by
  obtain ⟨l, hl, rfl, hw⟩ := open_nums ht hC hv h
  match l, hl with
  | [x0, x1, x2], _ => exact ⟨x0, x1, x2, rfl, hw _ (by simp), hw _ (by simp), hw _ (by simp)⟩
theorem open_nums4 {t : TypeId} (ht : Tryd.prog.underlying t = some (.array 4 3)) (hC : Tryd.prog.cellsOf t = 4) (hv : Value.okWide Tryd.prog w r b0 t v) (h : DataW.Trod enc Tryd.prog w base (fun _ => true) held t v d p) :
    ∃ x0 x1 x2 x3 : Int, v = .agg #[.int .i64 x0, .int .i64 x1, .int .i64 x2, .int .i64 x3] ∧ In64 x0 ∧ In64 x1 ∧ In64 x2 ∧ In64 x3 := by
  obtain ⟨l, hl, rfl, hw⟩ := open_nums ht hC hv h
  match l, hl with
  | [x0, x1, x2, x3], _ => exact ⟨x0, x1, x2, x3, rfl, hw _ (by simp), hw _ (by simp), hw _ (by simp), hw _ (by simp)⟩
end
end Go.Proofs.YtmoplcchiadlpaaDoor.Jc
