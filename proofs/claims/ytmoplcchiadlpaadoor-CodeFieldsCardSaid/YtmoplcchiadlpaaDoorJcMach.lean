/- jacquardlaw18.few; an instruction in a block of its own: its cells; stored whole; and bounds that numbers of Go keep. -/
import Derived.Test.YtmoplcchiadlpaaDoorJcGet
import Derived.Test.YtmoplcchiadlpaaDoorJcGetArgs
set_option linter.unusedVariables false
set_option linter.unusedSimpArgs false
namespace Go.Proofs.YtmoplcchiadlpaaDoor.Jc
section
open Go Go.RowKit Go.ChangeMaps Go.Proofs.YtmoplcchiadlpaaDoorW.PrintWords

def fewM (m : M) : M := { m with args := m.args.take 70 }
/-- An instruction that is handed back, its Args in blocks of the call's own. -/
def HandsM (m : M) (w : World) (e : Ending) (w' : World) : Prop :=
  ∃ a c, e = .returned (.agg (cellsM m a c)) ∧ Below w.heap.size w w' ∧ ArgsIn w' m a c ∧ ∀ ad, a = some ad → w.heap.size ≤ ad.block

section
variable {P : Program} {ops : Array Oper} {o : Oper} {a : Act} {Q : Exit → Act → World → Prop}
/-- append(v, ys...) at a step of a region that draws its order: ys a slice that is read. -/
theorem step_app_row {w0 W : World} {K : Act → World → Prop} {E : Prop} (base : Nat) (hgd : o.guard = none) (s x : Operand) (t e : TypeId) (k : IntKind) (bytes : Nat)
    (ho : o.op = .call { callee := .builtin .append, args := #[s, x], argTypes := #[t, t] })
    (ht : P.underlying t = some (.slice e)) (hinfo : (P.info? e).map (fun i => (i.zero, i.size, i.bytes)) = some (some (.int k 0), 1, bytes)) (hb0 : 0 < bytes)
    (v : Value) (xs ys : List Int) (A : Option Addr) (m c : Nat) (hs : a.eval s = v) (hx : a.eval x = .slice A m c)
    (HO : W.ownsRow base e 1 v xs.length (nums k xs)) (HR : ReadsInt W k A m ys) (HB : Below base w0 W) (hbase : base ≤ W.heap.size) (hl : (xs.length + m) * bytes ≤ 140737488355328)
    (h : ∀ v1 w1, w1.ownsRow base e 1 v1 (xs ++ ys).length (nums k (xs ++ ys)) → Below base w0 w1 → K (a.put o.dst v1) w1) :
    if Region.wanted o (yielded ops a.tmps) = true then Oper.wp P o a W K Q else E := by
  have hw : Region.wanted o (yielded ops a.tmps) = true := by simp [Region.wanted, hgd]
  rw [if_pos hw]
  obtain ⟨i0, hi, hzz⟩ := Option.map_eq_some_iff.1 hinfo
  simp only [Prod.mk.injEq] at hzz
  obtain ⟨hz0, hz1, hz2⟩ := hzz
  have hm : ys.length = m := HR.1
  have hlen : xs.length + m ≤ 140737488355328 := Nat.le_trans (Nat.le_mul_of_pos_right _ hb0) hl
  have hrun : ∃ v1 w1, (Builtin.append_ #[t, t] o.type #[v, .slice A m c]).run P W = .ok v1 w1 ∧ w1.ownsRow base e 1 v1 (xs ++ ys).length (nums k (xs ++ ys)) ∧ W.grownBy w1 v.ownBlock ∧ (v1.ownBlock = v.ownBlock ∨ v1.ownBlock = some W.heap.size) := by
    rcases A with _ | ad
    · have h0 : m = 0 := by
        rcases Nat.eq_zero_or_pos m with h0 | h0
        · exact h0
        · obtain ⟨ad, h, _⟩ := HR.2.2 h0
          cases h
      subst h0
      obtain rfl : ys = [] := List.eq_nil_of_length_eq_zero hm
      refine ⟨v, W, ?_, by simpa using HO, World.grownBy.refl W _, .inl rfl⟩
      rcases HO.2 with ⟨rfl, hn⟩ | ⟨g, cap, cur, rfl, _, _, hnc, _⟩
      · simp [Builtin.append_, run_underlying ht, sizeOf, typeInfo, hi, Builtin.lenOf, Builtin.firstCells]
      · simp [Builtin.append_, run_underlying ht, sizeOf, typeInfo, hi, Builtin.lenOf, Builtin.firstCells, hnc, storeCells]
    · have hcells : ∀ j u, (nums k ys)[j]? = some u → W.cell? (ad.add j) = some u := by
        intro j u hu
        have hj : j < ys.length := by
          rcases Nat.lt_or_ge j ys.length with h | h
          · exact h
          · simp [nums, List.getElem?_eq_none h] at hu
        obtain ⟨ad', h', hc⟩ := HR.2.2 (by omega)
        injection h' with h'
        subst h'
        have := hc j (by omega)
        simp [nums, List.getElem?_eq_getElem hj] at hu
        subst hu
        rw [this]
        simp [List.getD_eq_getElem?_getD, List.getElem?_eq_getElem hj]
      obtain ⟨v1, w1, hr, h2, h3, _, h5⟩ := run_append_own_at (P := P) W base t o.type e i0 (.int k 0) 1 bytes ht hi hz0 hz1 hz2 rfl (by omega) v xs.length (nums k xs) HO ad m c (nums k ys) (by simp [nums, hm]) hcells
        (by intro u hu; simp only [nums, List.mem_map] at hu; obtain ⟨q, _, rfl⟩ := hu; rfl) (by simp only [maxLen]; omega) hl hbase
      exact ⟨v1, w1, hr, by simpa [nums, hm] using h2, h3, h5⟩
  obtain ⟨v1, w1, hr, hown, hg, hat⟩ := hrun
  unfold Oper.wp execOp
  simp only [ho, resolve, invoke, builtin, Sem.run_bind, Sem.run_pure, Result.andThen_ok, List.map_toArray, List.map_cons, List.map_nil, hs, hx, hr]
  exact h v1 w1 hown (HB.grown hg hbase (own_base HO))
end
theorem own_args {w : World} {base n : Nat} {v : Value} {xs : List Int} (h : w.ownsRow base 3 1 v n (nums .i64 xs)) : ∃ A c, v = .slice A n c ∧ ReadsInt w .i64 A n xs ∧ n ≤ c ∧ ∀ ad, A = some ad → base ≤ ad.block := by
  obtain ⟨A, c, rfl, hr⟩ := own_reads h
  refine ⟨A, c, rfl, hr, ?_, fun ad ha => ?_⟩
  · rcases h.2 with ⟨h0, h1⟩ | ⟨g, cap, cur, hv, _, _, hc, _⟩
    · omega
    · cases hv
      exact hc
  · subst ha
    exact own_base h ad.block rfl

set_option maxRecDepth 100000 in
set_option maxHeartbeats 2000000 in
theorem few_any (m : M) (a : Option Addr) (c : Nat) (w : World) (har : ArgsIn w m a c) : Calls Tryd.prog 13 #[.agg (cellsM m a c)] w (HandsM (fewM m) w) := by
  have hcap := har.cap
  have hmax := har.reads.2.1
  have hm0 : 0 ≤ min (m.args.length : Int) 70 := by omega
  have hmc : min (m.args.length : Int) 70 ≤ c := by omega
  have hmn : (min (m.args.length : Int) 70).toNat = (m.args.take 70).length := by rw [List.length_take]; omega
  have hrd : ReadsInt w .i64 a (min (m.args.length : Int) 70).toNat (m.args.take 70) := by
    have h := har.reads.take_ (min m.args.length 70) (by omega)
    have e1 : m.args.take (min m.args.length 70) = m.args.take 70 := by
      by_cases h70 : m.args.length ≤ 70
      · rw [List.take_of_length_le (show m.args.length ≤ 70 from h70), List.take_of_length_le (by omega)]
      · rw [show min m.args.length 70 = 70 by omega]
    have e2 : (min (m.args.length : Int) 70).toNat = min m.args.length 70 := by omega
    rw [e1] at h
    rw [e2]
    exact h
  have HRD := Lib.hid hrd
  have HMN := Lib.hid hmn
  clear har hmn hrd
  unfold cellsM
  go_enter Tryd.func13, Tryd.ntmps13
  have hO := World.ownsRow_made (base := w.heap.size + 1 + 1) (e := 3) (size := 1) ((w.alloc (.cells #[.int .i64 m.op, .int .i64 m.d, .int .i64 m.e, .int .i64 m.a, .int .i64 m.b, .int .i64 m.c, .int .i32 m.imm, .slice a m.args.length c] 24)).alloc (.cells #[.int .i64 0, .int .i64 0, .int .i64 0, .int .i64 0, .int .i64 0, .int .i64 0, .int .i32 0, .slice none 0 0] 24)) #[] 0 (by simp) (by decide) (by simp)
  have hb3 := below_alloc (below_alloc (below_alloc (Below.refl w.heap.size w) (.cells #[.int .i64 m.op, .int .i64 m.d, .int .i64 m.e, .int .i64 m.a, .int .i64 m.b, .int .i64 m.c, .int .i32 m.imm, .slice a m.args.length c] 24)) (.cells #[.int .i64 0, .int .i64 0, .int .i64 0, .int .i64 0, .int .i64 0, .int .i64 0, .int .i32 0, .slice none 0 0] 24)) (.cells #[] 3)
  have hi3 := alloc_old (o := .cells #[] 3) (alloc_old (o := .cells #[.int .i64 0, .int .i64 0, .int .i64 0, .int .i64 0, .int .i64 0, .int .i64 0, .int .i32 0, .slice none 0 0] 24) (alloc_at w (.cells #[.int .i64 m.op, .int .i64 m.d, .int .i64 m.e, .int .i64 m.a, .int .i64 m.b, .int .i64 m.c, .int .i32 m.imm, .slice a m.args.length c] 24)))
  have hr3 := alloc_old (o := .cells #[] 3) (alloc_at (w.alloc (.cells #[.int .i64 m.op, .int .i64 m.d, .int .i64 m.e, .int .i64 m.a, .int .i64 m.b, .int .i64 m.c, .int .i32 m.imm, .slice a m.args.length c] 24)) (.cells #[.int .i64 0, .int .i64 0, .int .i64 0, .int .i64 0, .int .i64 0, .int .i64 0, .int .i32 0, .slice none 0 0] 24))
  have hz3 : (((w.alloc (.cells #[.int .i64 m.op, .int .i64 m.d, .int .i64 m.e, .int .i64 m.a, .int .i64 m.b, .int .i64 m.c, .int .i32 m.imm, .slice a m.args.length c] 24)).alloc (.cells #[.int .i64 0, .int .i64 0, .int .i64 0, .int .i64 0, .int .i64 0, .int .i64 0, .int .i32 0, .slice none 0 0] 24)).alloc (.cells #[] 3)).heap.size = w.heap.size + 1 + 1 + 1 := by simp
  rw [alloc_size, alloc_size] at hO
  rw [alloc_size] at hr3
  have HO := Lib.hid hO
  have HB3 := Lib.hid hb3
  have HI3 := Lib.hid hi3
  have HR3 := Lib.hid hr3
  have HZ3 := Lib.hid hz3
  clear hO hb3 hi3 hr3 hz3
  go_wp2_with (at_builtin; (refine print_append_row (w.heap.size + 1 + 1) rfl (.tmp 3) (.tmp 10) 22 3 .i64 8 rfl Tryd.underlying22 info_int (by decide) _ [] (m.args.take 70) a _ c rfl rfl HO.out (HRD.out.below HB3.out) (Below.refl _ _) (by rw [HZ3.out]; omega) (by rw [List.length_nil]; omega) ?_; intro v1 w1 hown hB _ _; rw [List.nil_append] at hown; obtain ⟨A1, c1, hv1, hr1, hc1, hf1⟩ := own_args hown; subst hv1; have hi := (hB.block w.heap.size (by omega)).trans HI3.out; have hr := (hB.block (w.heap.size + 1) (by omega)).trans HR3.out; have hbw := HB3.out.trans (hB.mono (show w.heap.size ≤ w.heap.size + 1 + 1 by omega)); have i0 := cell_blk hi 0; have i1 := cell_blk hi 1; have i2 := cell_blk hi 2; have i3 := cell_blk hi 3; have i4 := cell_blk hi 4; have i5 := cell_blk hi 5; have i6 := cell_blk hi 6; have i7 := cell_blk hi 7; have z7 := froz_blk hi 7; have r0 := cell_blk hr 0; have r1 := cell_blk hr 1; have r2 := cell_blk hr 2; have r3 := cell_blk hr 3; have r4 := cell_blk hr 4; have r5 := cell_blk hr 5; have r6 := cell_blk hr 6; have r7 := cell_blk hr 7; have zr := fun i => froz_blk hr i; have HOWN := Lib.hid hown; have HR1 := Lib.hid hr1; have HC1 := Lib.hid hc1; have HF1 := Lib.hid hf1; have HBW := Lib.hid hbw; clear hi hr hbw hown hr1 hc1 hf1 hB))
  have hle : (fewM m).args.length = min 70 m.args.length := by show (m.args.take 70).length = _; rw [List.length_take]
  have hne : ∀ ad, A1 = some ad → ad.block ≠ w.heap.size + 1 := fun ad ha => by have := HF1.out ad ha; omega
  have hne0 : ∀ ad, A1 = some ad → ad.block ≠ w.heap.size := fun ad ha => by have := HF1.out ad ha; omega
  refine bodyPost_ret (v := .agg #[.int .i64 m.op, .int .i64 m.d, .int .i64 m.e, .int .i64 m.a, .int .i64 m.b, .int .i64 m.c, .int .i32 m.imm, .slice A1 (min 70 m.args.length) c1]) (by simp [results, Tryd.results13, go_sem, r0, r1, r2, r3, r4, r5, r6, r7]) rfl ?_
  refine ⟨A1, c1, ?_, ?_, ?_, fun ad ha => by have := HF1.out ad ha; omega⟩
  · unfold cellsM
    rw [hle]
    rfl
  · exact below_set (below_set (below_set (below_set (below_set (below_set (below_set (below_set (below_set HBW.out (by omega) _ _) (by omega) _ _) (by omega) _ _) (by omega) _ _) (by omega) _ _) (by omega) _ _) (by omega) _ _) (by omega) _ _) (by omega) _ _
  · refine ArgsIn.set ?_ hne _ _
    refine ArgsIn.set ?_ hne _ _
    refine ArgsIn.set ?_ hne _ _
    refine ArgsIn.set ?_ hne _ _
    refine ArgsIn.set ?_ hne _ _
    refine ArgsIn.set ?_ hne _ _
    refine ArgsIn.set ?_ hne _ _
    refine ArgsIn.set ?_ hne _ _
    refine ArgsIn.set ?_ hne0 _ _
    exact ⟨HR1.out, HC1.out⟩
end
section
open Go Go.RowKit Go.ChangeMaps Go.Proofs.YtmoplcchiadlpaaDoorW.PrintWords

/-- Block b is an instruction. -/
def MachAt (w : World) (b : Nat) (m : M) (a : Option Addr) (c : Nat) : Prop := w.heap[b]? = some (.cells (cellsM m a c) 24 (0, 0))
theorem MachAt.cells {w : World} {b : Nat} {m : M} {a : Option Addr} {c : Nat} (h : MachAt w b m a c) :
    w.cell? ⟨b, 0, none⟩ = some (.int .i64 m.op) ∧ w.cell? ⟨b, 1, none⟩ = some (.int .i64 m.d) ∧ w.cell? ⟨b, 2, none⟩ = some (.int .i64 m.e) ∧ w.cell? ⟨b, 3, none⟩ = some (.int .i64 m.a) ∧ w.cell? ⟨b, 4, none⟩ = some (.int .i64 m.b) ∧
    w.cell? ⟨b, 5, none⟩ = some (.int .i64 m.c) ∧ w.cell? ⟨b, 6, none⟩ = some (.int .i32 m.imm) ∧ w.cell? ⟨b, 7, none⟩ = some (.slice a m.args.length c) ∧ ∀ i, w.frozen? ⟨b, i, none⟩ = false :=
  ⟨(cell_blk h 0).trans rfl, (cell_blk h 1).trans rfl, (cell_blk h 2).trans rfl, (cell_blk h 3).trans rfl, (cell_blk h 4).trans rfl, (cell_blk h 5).trans rfl, (cell_blk h 6).trans rfl, (cell_blk h 7).trans rfl, fun i => froz_blk h i⟩
theorem MachAt.lt {w : World} {b : Nat} {m : M} {a : Option Addr} {c : Nat} (h : MachAt w b m a c) : b < w.heap.size := blk_lt' h
theorem MachAt.below {w w1 : World} {b : Nat} {m : M} {a : Option Addr} {c : Nat} (h : MachAt w b m a c) (hb : Below w.heap.size w w1) : MachAt w1 b m a c := (hb.block b h.lt).trans h
theorem MachAt.grown {w w1 : World} {b g : Nat} {m : M} {a : Option Addr} {c : Nat} (h : MachAt w b m a c) (hg : w.grownBy w1 (some g)) (hne : b ≠ g) : MachAt w1 b m a c := grown_blk h hg (by simpa using hne)
/-- The eight cells, stored one by one. -/
def set8 (w : World) (b : Nat) (m : M) (a : Option Addr) (c : Nat) : World :=
  (((((((w.setCell ⟨b, 0, none⟩ (.int .i64 m.op)).setCell ⟨b, 1, none⟩ (.int .i64 m.d)).setCell ⟨b, 2, none⟩ (.int .i64 m.e)).setCell ⟨b, 3, none⟩ (.int .i64 m.a)).setCell ⟨b, 4, none⟩ (.int .i64 m.b)).setCell ⟨b, 5, none⟩ (.int .i64 m.c)).setCell ⟨b, 6, none⟩ (.int .i32 m.imm)).setCell ⟨b, 7, none⟩ (.slice a m.args.length c)
theorem set8_grown (w : World) (b : Nat) (m : M) (a : Option Addr) (c : Nat) : w.grownBy (set8 w b m a c) (some b) := by
  unfold set8
  refine grown_set ?_ _ _
  refine grown_set ?_ _ _
  refine grown_set ?_ _ _
  refine grown_set ?_ _ _
  refine grown_set ?_ _ _
  refine grown_set ?_ _ _
  refine grown_set ?_ _ _
  refine grown_set ?_ _ _
  exact World.grownBy.refl w (some b)
theorem set8_at {w : World} {b : Nat} {m0 : M} {a0 : Option Addr} {c0 : Nat} (h : MachAt w b m0 a0 c0) (m : M) (a : Option Addr) (c : Nat) : MachAt (set8 w b m a c) b m a c := by
  have h0 : w.heap[b]? = some (.cells #[.int .i64 m0.op, .int .i64 m0.d, .int .i64 m0.e, .int .i64 m0.a, .int .i64 m0.b, .int .i64 m0.c, .int .i32 m0.imm, .slice a0 m0.args.length c0] 24 (0, 0)) := h
  have h1 : (w.setCell ⟨b, 0, none⟩ (.int .i64 m.op)).heap[b]? = some (.cells #[.int .i64 m.op, .int .i64 m0.d, .int .i64 m0.e, .int .i64 m0.a, .int .i64 m0.b, .int .i64 m0.c, .int .i32 m0.imm, .slice a0 m0.args.length c0] 24 (0, 0)) := set_cells h0 0 _
  generalize hw1 : (w.setCell ⟨b, 0, none⟩ (.int .i64 m.op)) = w1 at h1
  have h2 : (w1.setCell ⟨b, 1, none⟩ (.int .i64 m.d)).heap[b]? = some (.cells #[.int .i64 m.op, .int .i64 m.d, .int .i64 m0.e, .int .i64 m0.a, .int .i64 m0.b, .int .i64 m0.c, .int .i32 m0.imm, .slice a0 m0.args.length c0] 24 (0, 0)) := set_cells h1 1 _
  generalize hw2 : (w1.setCell ⟨b, 1, none⟩ (.int .i64 m.d)) = w2 at h2
  have h3 : (w2.setCell ⟨b, 2, none⟩ (.int .i64 m.e)).heap[b]? = some (.cells #[.int .i64 m.op, .int .i64 m.d, .int .i64 m.e, .int .i64 m0.a, .int .i64 m0.b, .int .i64 m0.c, .int .i32 m0.imm, .slice a0 m0.args.length c0] 24 (0, 0)) := set_cells h2 2 _
  generalize hw3 : (w2.setCell ⟨b, 2, none⟩ (.int .i64 m.e)) = w3 at h3
  have h4 : (w3.setCell ⟨b, 3, none⟩ (.int .i64 m.a)).heap[b]? = some (.cells #[.int .i64 m.op, .int .i64 m.d, .int .i64 m.e, .int .i64 m.a, .int .i64 m0.b, .int .i64 m0.c, .int .i32 m0.imm, .slice a0 m0.args.length c0] 24 (0, 0)) := set_cells h3 3 _
  generalize hw4 : (w3.setCell ⟨b, 3, none⟩ (.int .i64 m.a)) = w4 at h4
  have h5 : (w4.setCell ⟨b, 4, none⟩ (.int .i64 m.b)).heap[b]? = some (.cells #[.int .i64 m.op, .int .i64 m.d, .int .i64 m.e, .int .i64 m.a, .int .i64 m.b, .int .i64 m0.c, .int .i32 m0.imm, .slice a0 m0.args.length c0] 24 (0, 0)) := set_cells h4 4 _
  generalize hw5 : (w4.setCell ⟨b, 4, none⟩ (.int .i64 m.b)) = w5 at h5
  have h6 : (w5.setCell ⟨b, 5, none⟩ (.int .i64 m.c)).heap[b]? = some (.cells #[.int .i64 m.op, .int .i64 m.d, .int .i64 m.e, .int .i64 m.a, .int .i64 m.b, .int .i64 m.c, .int .i32 m0.imm, .slice a0 m0.args.length c0] 24 (0, 0)) := set_cells h5 5 _
  generalize hw6 : (w5.setCell ⟨b, 5, none⟩ (.int .i64 m.c)) = w6 at h6
  have h7 : (w6.setCell ⟨b, 6, none⟩ (.int .i32 m.imm)).heap[b]? = some (.cells #[.int .i64 m.op, .int .i64 m.d, .int .i64 m.e, .int .i64 m.a, .int .i64 m.b, .int .i64 m.c, .int .i32 m.imm, .slice a0 m0.args.length c0] 24 (0, 0)) := set_cells h6 6 _
  generalize hw7 : (w6.setCell ⟨b, 6, none⟩ (.int .i32 m.imm)) = w7 at h7
  have h8 : (w7.setCell ⟨b, 7, none⟩ (.slice a m.args.length c)).heap[b]? = some (.cells #[.int .i64 m.op, .int .i64 m.d, .int .i64 m.e, .int .i64 m.a, .int .i64 m.b, .int .i64 m.c, .int .i32 m.imm, .slice a m.args.length c] 24 (0, 0)) := set_cells h7 7 _
  generalize hw8 : (w7.setCell ⟨b, 7, none⟩ (.slice a m.args.length c)) = w8 at h8
  have e : set8 w b m a c = w8 := by unfold set8; rw [hw1, hw2, hw3, hw4, hw5, hw6, hw7, hw8]
  rw [e]
  exact h8
theorem ArgsIn.grown {w w1 : World} {m : M} {a : Option Addr} {c g : Nat} (h : ArgsIn w m a c) (hg : w.grownBy w1 (some g)) (hne : ∀ ad, a = some ad → ad.block ≠ g) : ArgsIn w1 m a c := by
  refine ⟨⟨h.reads.1, h.reads.2.1, fun hn => ?_⟩, h.cap⟩
  obtain ⟨ad, ha, hc⟩ := h.reads.2.2 hn
  refine ⟨ad, ha, fun j hj => ?_⟩
  have hcell := hc j hj
  have hlt := World.block_lt_of_cell? w _ hcell
  rw [← hcell]
  apply World.cell?_of_block
  exact hg.block _ hlt (by
    rw [addr_add_block]
    have := hne ad ha
    simpa using this)
theorem ArgsIn.same {w : World} {m m' : M} {a : Option Addr} {c : Nat} (h : ArgsIn w m a c) (e : m'.args = m.args) : ArgsIn w m' a c := ⟨by rw [e]; exact h.reads, by rw [e]; exact h.cap⟩
/-- Numbers of Go, but for how many Args there are. -/
structure InGo (m : M) : Prop where
  imm : -2147483648 ≤ m.imm ∧ m.imm ≤ 2147483647
  op : In64 m.op
  d : In64 m.d
  e : In64 m.e
  a : In64 m.a
  b : In64 m.b
  c : In64 m.c
  args : ∀ x ∈ m.args, In64 x
theorem InGo.few {m : M} (h : InGo m) : InR (fewM m) :=
  ⟨h.imm, h.op, h.d, h.e, h.a, h.b, h.c, fun x hx => h.args x (List.mem_of_mem_take hx), by show (m.args.take 70).length ≤ 1000000; rw [List.length_take]; omega⟩
/-- What an argument that is an instruction is known by. -/
def CameIn (w : World) (m : M) (a : Option Addr) (c : Nat) : Prop :=
  ArgsIn w m a c ∧ (-2147483648 ≤ m.imm ∧ m.imm ≤ 2147483647) ∧ In64 m.op ∧ In64 m.d ∧ In64 m.e ∧ In64 m.a ∧ In64 m.b ∧ In64 m.c ∧ ∀ x ∈ m.args, In64 x
theorem CameIn.go {w : World} {m : M} {a : Option Addr} {c : Nat} (h : CameIn w m a c) : InGo m := ⟨h.2.1, h.2.2.1, h.2.2.2.1, h.2.2.2.2.1, h.2.2.2.2.2.1, h.2.2.2.2.2.2.1, h.2.2.2.2.2.2.2.1, h.2.2.2.2.2.2.2.2⟩
end
section
open Go Go.RowKit Go.ChangeMaps Go.Proofs.YtmoplcchiadlpaaDoorW.PrintWords

theorem bs_cut (l : List UInt8) (k : Nat) : (bs l).extract 0 k = bs (l.take k) := by
  apply ByteArray.ext
  apply Array.toList_inj.1
  simp [ByteArray.data_extract]
theorem cut_min (l : List UInt8) (k : Nat) : (bs l).extract 0 (min (l.length : Int) k).toNat = bs (l.take k) := by
  rw [bs_cut]
  by_cases h : l.length ≤ k
  · rw [List.take_of_length_le h, List.take_of_length_le (by omega)]
  · rw [show (min (l.length : Int) k).toNat = k by omega]
theorem emod_lt_nat (x : Int) (n : Nat) (h : 1 ≤ n) : (x % (n : Int)).toNat < n ∧ 0 ≤ x % (n : Int) ∧ x % (n : Int) < n := by
  have h1 := Int.emod_nonneg x (show (n : Int) ≠ 0 by omega)
  have h2 := Int.emod_lt_of_pos x (show (0 : Int) < n by omega)
  omega
theorem bs_of (s : ByteArray) : ∃ l, s = bs l := ⟨s.data.toList, by apply ByteArray.ext; simp⟩
end
end Go.Proofs.YtmoplcchiadlpaaDoor.Jc
