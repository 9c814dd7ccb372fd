/- code.Size, Name, Control, Reaches. -/
import Derived.Test.YtmoplcchiadlpaaDoorJcShape
import Derived.Test.YtmoplcchiadlpaaDoorJcSplit
import Derived.Test.YtmoplcchiadlpaaDoorJcSpec3
import Derived.Test.YtmoplcchiadlpaaDoorJcMem2
set_option linter.unusedVariables false
set_option linter.unusedSimpArgs false
namespace Go.Proofs.YtmoplcchiadlpaaDoor.Jc
open Go Go.RowKit Go.ChangeMaps Go.Proofs.YtmoplcchiadlpaaDoorW.PrintWords

theorem control_any (op : Int) (w : World) : Calls Tryd.prog 16 #[.int .i64 op] w fun e w' => e = .returned (.bool (decide (40 ≤ op ∧ op ≤ 51))) ∧ w = w' := by
  have h : (decide (40 ≤ op) = false ∧ decide (40 ≤ op ∧ op ≤ 51) = false) ∨ (decide (40 ≤ op) = true ∧ decide (op ≤ 51) = decide (40 ≤ op ∧ op ≤ 51)) := by
    by_cases h1 : 40 ≤ op
    · exact .inr ⟨by simp [h1], by simp [h1]⟩
    · exact .inl ⟨by simp; omega, by simp; omega⟩
  generalize decide (40 ≤ op ∧ op ≤ 51) = r at h
  rcases h with ⟨h1, rfl⟩ | ⟨h1, h2⟩
  all_goals
    go_enter Tryd.func16, Tryd.ntmps16
    go_wp2_with fail
    go_ret
    exact ⟨rfl, rfl⟩
theorem reaches_any (n : Int) (w : World) : Calls Tryd.prog 28 #[.int .i64 n] w fun e w' => e = .returned (.bool (decide (-128 ≤ n ∧ n ≤ 127))) ∧ w = w' := by
  have h : (decide (-128 ≤ n) = false ∧ decide (-128 ≤ n ∧ n ≤ 127) = false) ∨ (decide (-128 ≤ n) = true ∧ decide (n ≤ 127) = decide (-128 ≤ n ∧ n ≤ 127)) := by
    by_cases h1 : -128 ≤ n
    · exact .inr ⟨by simp [h1], by simp [h1]⟩
    · exact .inl ⟨by simp; omega, by simp; omega⟩
  generalize decide (-128 ≤ n ∧ n ≤ 127) = r at h
  rcases h with ⟨h1, rfl⟩ | ⟨h1, h2⟩
  all_goals
    go_enter Tryd.func28, Tryd.ntmps28
    go_wp2_with fail
    go_ret
    exact ⟨rfl, rfl⟩
theorem field_op (x y : Value) (W : World) : (Instr.field 54 (.agg #[x, y]) 0).run Tryd.prog W = .ok x W := by
  kernel_rfl
set_option maxRecDepth 100000 in
theorem name_any (op : Int) (w : World) (htab : Lib.TabIs Tryd.prog w "strings.asciiSpace" .u8 Lib.asciiSpaceTab) :
    Calls Tryd.prog 17 #[.int .i64 op] w fun e w' => e = .returned (.string (bs (nameOf op))) ∧ Below w.heap.size w w' := by
  have HT := Lib.hid htab
  clear htab
  go_enter Tryd.func17, Tryd.ntmps17
  go_wp2_with fail
  refine (ops_some _ HT.out).mono ?_
  rintro e w1 ⟨B, rfl, hm, hb⟩
  have hl := lookup_ops1 hm op
  have hf := field_op
  have HB := Lib.hid hb
  clear hb hm
  go_wp2_with fail
  go_ret
  exact ⟨rfl, HB.out⟩
theorem far_cases (m : M) : (((numF m.op).toNat : Int) == 98) = true ∧ (m.e == 1) = true ∧ farOf m = true ∨ (((numF m.op).toNat : Int) == 98) = true ∧ (m.e == 1) = false ∧ farOf m = false ∨ (((numF m.op).toNat : Int) == 98) = false ∧ farOf m = false := by
  unfold farOf
  by_cases h : numF m.op = 98
  · cases he : m.e == 1
    · exact .inr (.inl ⟨by rw [h]; rfl, rfl, by simp [h]⟩)
    · exact .inl ⟨by rw [h]; rfl, rfl, by simp [h]⟩
  · exact .inr (.inr ⟨u8_ne rfl h, by simp [h]⟩)
set_option maxRecDepth 100000 in
set_option maxHeartbeats 4000000 in
theorem size_any (m : M) (a : Option Addr) (c : Nat) (w : World) (har : ArgsIn w m a c) (htab : Lib.TabIs Tryd.prog w "strings.asciiSpace" .u8 Lib.asciiSpaceTab) :
    Calls Tryd.prog 19 #[.agg (cellsM m a c)] w fun e w' => e = .returned (.int .i64 (sizeM m)) ∧ Below w.heap.size w w' := by
  have HT := Lib.hid htab
  have HR := Lib.hid har
  clear har htab
  have hshape : ∀ W : World, Below w.heap.size w W → Calls Tryd.prog 32 #[.agg (cellsM m a c)] W fun e w' => e = .returned (.tuple #[.agg #[.string (bs (nameOf m.op)), .string (bs (fieldsOf m.op))], .bool (shapeOk m)]) ∧ Below W.heap.size W w' := fun W hW =>
    shape_any m a c W (HR.out.below hW) (tabIs_below HT.out hW)
  unfold cellsM at hshape ⊢
  have HSH := Lib.hid hshape
  clear hshape
  go_enter Tryd.func19, Tryd.ntmps19
  go_wp2_with fail
  have hb0 := below_alloc (Below.refl w.heap.size w) (.cells #[.int .i64 m.op, .int .i64 m.d, .int .i64 m.e, .int .i64 m.a, .int .i64 m.b, .int .i64 m.c, .int .i32 m.imm, .slice a m.args.length c] 24)
  have hblk := alloc_at w (.cells #[.int .i64 m.op, .int .i64 m.d, .int .i64 m.e, .int .i64 m.a, .int .i64 m.b, .int .i64 m.c, .int .i32 m.imm, .slice a m.args.length c] 24)
  refine (HSH.out _ hb0).mono ?_
  have HBK := Lib.hid hblk
  have hsz := Lib.hid (alloc_size w (.cells #[.int .i64 m.op, .int .i64 m.d, .int .i64 m.e, .int .i64 m.a, .int .i64 m.b, .int .i64 m.c, .int .i32 m.imm, .slice a m.args.length c] 24))
  have hbl := Lib.hid hb0
  clear hb0 hblk
  generalize hWW : w.alloc (.cells #[.int .i64 m.op, .int .i64 m.d, .int .i64 m.e, .int .i64 m.a, .int .i64 m.b, .int .i64 m.c, .int .i32 m.imm, .slice a m.args.length c] 24) = W at HBK hsz hbl
  rintro e w1 ⟨rfl, hb1⟩
  have hB : Below w.heap.size w w1 := below_step hbl.out hb1
  have hK : w1.heap[w.heap.size]? = some (.cells #[.int .i64 m.op, .int .i64 m.d, .int .i64 m.e, .int .i64 m.a, .int .i64 m.b, .int .i64 m.c, .int .i32 m.imm, .slice a m.args.length c] 24 (0, 0)) :=
    (hb1.block _ (by have := hsz.out; omega)).trans HBK.out
  have HK1 := Lib.hid hK
  have HB := Lib.hid hB
  have hmax := HR.out.reads.2.1
  clear hB hb1 hK HBK hsz hbl HSH HR
  clear hWW
  cases hsh : shapeOk m
  · have hs : sizeM m = 0 := by unfold sizeM; rw [if_pos hsh]
    have HS := Lib.hid hs
    clear hs hsh
    go_wp2_with fail
    go_ret
    exact ⟨by rw [HS.out]; rfl, below_alloc HB.out _⟩
  · have hs : sizeM m = _ := if_neg (by rw [hsh]; simp)
    have HS := Lib.hid hs
    have HSK := Lib.hid hsh
    clear hs hsh
    go_wp2_with fail
    refine (split_any (fieldsOf m.op) (by have := fields_short m.op; omega) _).mono ?_
    rintro e w2 ⟨rfl, rfl⟩
    rw [show (splitF (fieldsOf m.op)).2 = numF m.op from rfl, show (splitF (fieldsOf m.op)).1 = regsF m.op from rfl]
    have hK2 := alloc_old (o := (.cells #[.string (bs (nameOf m.op)), .string (bs (fieldsOf m.op))] 54)) HK1.out
    have hB2 := below_alloc HB.out (.cells #[.string (bs (nameOf m.op)), .string (bs (fieldsOf m.op))] 54)
    generalize w1.alloc (.cells #[.string (bs (nameOf m.op)), .string (bs (fieldsOf m.op))] 54) = W2 at hK2 hB2 ⊢
    have e2 : W2.cell? ⟨w.heap.size, 2, none⟩ = some (.int .i64 m.e) := (cell_blk hK2 2).trans rfl
    have e7 : W2.cell? ⟨w.heap.size, 7, none⟩ = some (.slice a m.args.length c) := (cell_blk hK2 7).trans rfl
    have HB2 := Lib.hid hB2
    clear hK2 hB2 HB HK1
    have hrs := regs_short m.op
    have hsz : (bs (regsF m.op)).size = (regsF m.op).length := bs_size _
    obtain ⟨r, hr⟩ : ∃ r, (regsF m.op).length = r := ⟨_, rfl⟩
    have HRL := Lib.hid hr
    rw [hr] at hsz hrs
    have hd : ((r : Int) + 1).tdiv 2 = (((r + 1) / 2 : Nat) : Int) := by
      rw [Int.tdiv_eq_ediv_of_nonneg (by omega)]
      omega
    obtain ⟨q, hq⟩ : ∃ q, (r + 1) / 2 = q := ⟨_, rfl⟩
    rw [hq] at hd
    have HQ := Lib.hid hq
    have hq2 : q ≤ 2 := by omega
    clear hr hq
    have hw1 : IntKind.i64.wrap ((r : Int) + 1) = r + 1 := wrap_i64 (by omega) (by omega)
    have hcase : numF m.op = 0 ∨ numF m.op = 110 ∨ numF m.op = 116 ∨ (numF m.op ≠ 0 ∧ numF m.op ≠ 110 ∧ numF m.op ≠ 116) := by
      by_cases h0 : numF m.op = 0
      · exact .inl h0
      by_cases h1 : numF m.op = 110
      · exact .inr (.inl h1)
      by_cases h2 : numF m.op = 116
      · exact .inr (.inr (.inl h2))
      exact .inr (.inr (.inr ⟨h0, h1, h2⟩))
    rcases hcase with h | h | h | ⟨h0, h1, h2⟩
    · have q0 : (((numF m.op).toNat : Int) == 0) = true := by rw [h]; rfl
      have hfin : sizeM m = 1 + (q : Int) := by rw [HS.out, HRL.out, HQ.out, h]; simp
      have HF := Lib.hid hfin
      clear h hfin HS
      go_wp2_with fail
      go_ret
      exact ⟨by rw [HF.out]; rfl, HB2.out⟩
    · have q0 : (((numF m.op).toNat : Int) == 0) = false := by rw [h]; rfl
      have q1 : (((numF m.op).toNat : Int) == 110) = true := by rw [h]; rfl
      have hfin : sizeM m = 1 + (q : Int) + 5 := by rw [HS.out, HRL.out, HQ.out, h]; simp
      have HF := Lib.hid hfin
      clear h hfin HS
      go_wp2_with fail
      go_ret
      exact ⟨by rw [HF.out]; rfl, HB2.out⟩
    · have q0 : (((numF m.op).toNat : Int) == 0) = false := by rw [h]; rfl
      have q1 : (((numF m.op).toNat : Int) == 110) = false := by rw [h]; rfl
      have q3 : (((numF m.op).toNat : Int) == 116) = true := by rw [h]; rfl
      have h65 := shape_116 m HSK.out h
      have hfin : sizeM m = 1 + (q : Int) + 1 + 3 * (m.args.length : Int) := by rw [HS.out, HRL.out, HQ.out, h]; simp; omega
      have HF := Lib.hid hfin
      clear h hfin HS
      go_wp2_with fail
      go_ret
      exact ⟨by rw [HF.out]; rfl, HB2.out⟩
    · have q0 := u8_ne (n := 0) rfl h0
      have q1 := u8_ne (n := 110) rfl h1
      have q3 := u8_ne (n := 116) rfl h2
      have hfin : sizeM m = 1 + (q : Int) + ((widthF (numF m.op) (farOf m)).1 : Int) := by rw [HS.out, HRL.out, HQ.out, if_neg h0, if_neg h1, if_neg h2]
      have HF := Lib.hid hfin
      clear hfin HS
      have hwl := width_le (numF m.op) (farOf m)
      have HWD := Lib.hid (fun W => width_any (numF m.op) (farOf m) W)
      rcases far_cases m with ⟨b1, b2, b3⟩ | ⟨b1, b2, b3⟩ | ⟨b1, b3⟩
      all_goals
        rw [b3] at HF HWD hwl
        clear b3 h0 h1 h2
        generalize (widthF (numF m.op) _) = wd at HF HWD hwl
        obtain ⟨wb, wl, wm⟩ := wd
        dsimp only at HF HWD hwl
        go_wp2_with fail
        refine (HWD.out _).mono ?_
        rintro e w3 ⟨rfl, rfl⟩
        go_wp2_with fail
        go_ret
        exact ⟨by rw [HF.out]; rfl, HB2.out⟩
end Go.Proofs.YtmoplcchiadlpaaDoor.Jc
