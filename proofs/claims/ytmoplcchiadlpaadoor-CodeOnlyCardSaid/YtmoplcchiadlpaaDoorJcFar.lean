/- jacquardlaw18.CodeFar, walked: it returns true. -/
import Derived.Test.YtmoplcchiadlpaaDoorJcShown
import Derived.Test.YtmoplcchiadlpaaDoorJcPlain1
import Derived.Deep.QuietTactic
set_option linter.unusedVariables false
set_option linter.unusedSimpArgs false
namespace Go.Proofs.YtmoplcchiadlpaaDoor.Jc
open Go Go.RowKit Go.ChangeMaps Go.Proofs.YtmoplcchiadlpaaDoorW.PrintWords

theorem i64_mask16 (n : Int) : bits .and .i64 n 65535 = n % 65536 := by
  have h15 : (BitVec.ofInt 64 65535).toNat = 2 ^ 16 - 1 := by decide
  have key : (BitVec.ofInt 64 n &&& BitVec.ofInt 64 65535).toNat = (n % ((2 ^ 64 : Nat) : Int)).toNat % 2 ^ 16 := by
    rw [BitVec.toNat_and, BitVec.toNat_ofInt, h15, Nat.and_two_pow_sub_one_eq_mod]
  show IntKind.i64.wrap ((BitVec.ofInt 64 n &&& BitVec.ofInt 64 65535).toNat : Nat) = n % 65536
  rw [key, IntKind.wrap_i64]
  omega

theorem in64_0 : In64 0 := ⟨by decide, by decide⟩
theorem in64_1 : In64 1 := ⟨by decide, by decide⟩
set_option maxRecDepth 100000 in
set_option maxHeartbeats 2000000 in
theorem far_walk (op x y b : Int) (hop : In64 op) (hx : In64 x) (hy : In64 y) (hb : -2147483648 ≤ b ∧ b ≤ 2147483647) (w : World) (htab : Lib.TabIs Tryd.prog w "strings.asciiSpace" .u8 Lib.asciiSpaceTab) (hpow : Lib.TabIs Tryd.prog w "internal/strconv.uint64pow10" .u64 Lib.pow10Tab) :
    Calls Tryd.prog 9 #[.int .i64 op, .agg #[.int .i64 x, .int .i64 y], .int .i32 b] w fun e w' => e = .returned (.bool true) ∧ Below w.heap.size w w' := by
  have HT := Lib.hid htab
  have HP := Lib.hid hpow
  have a1 := i64_mask16
  have a2 := i64_and15
  clear htab hpow
  go_enter Tryd.func9, Tryd.ntmps9
  go_wp2_with fail
  have hk := alloc_at w (.cells #[.int .i64 x, .int .i64 y] 48)
  have hB := below_alloc (Below.refl w.heap.size w) (.cells #[.int .i64 x, .int .i64 y] 48)
  generalize w.alloc (.cells #[.int .i64 x, .int .i64 y] 48) = V1 at hk hB ⊢
  refine (shown_any _ (tabIs_below HT.out hB) (tabIs_below HP.out hB)).mono ?_
  rintro e w1 ⟨rfl, hb1⟩
  have hk1 := (hb1.block _ (blk_lt' hk)).trans hk
  have HB1 := Lib.hid (below_step hB hb1)
  have c0 : w1.cell? ⟨w.heap.size, 0, none⟩ = some (.int .i64 x) := (cell_blk hk1 0).trans rfl
  have c1 : w1.cell? ⟨w.heap.size, 1, none⟩ = some (.int .i64 y) := (cell_blk hk1 1).trans rfl
  clear hk hB hb1 hk1
  go_wp2_with fail
  have ho : 40 ≤ 40 + op % 65536 % 9 ∧ 40 + op % 65536 % 9 ≤ 48 := by omega
  have hA : 0 ≤ x % 16 ∧ x % 16 < 16 := by omega
  have hBB : 0 ≤ y % 16 ∧ y % 16 < 16 := by omega
  generalize 40 + op % 65536 % 9 = O at ho ⊢
  generalize x % 16 = A at hA ⊢
  generalize y % 16 = B at hBB ⊢
  have hb1 := hb.1
  have hb2 := hb.2
  have in0 : InR ⟨O, 0, 0, A, B, 0, b, []⟩ := ⟨hb, ⟨by show -9223372036854775808 ≤ O; omega, by show O ≤ 9223372036854775807; omega⟩, in64_0, in64_0, ⟨by show -9223372036854775808 ≤ A; omega, by show A ≤ 9223372036854775807; omega⟩, ⟨by show -9223372036854775808 ≤ B; omega, by show B ≤ 9223372036854775807; omega⟩, in64_0, fun x hx => absurd hx (by simp), by simp⟩
  have inE : InR ⟨O, 0, 1, A, B, 0, b, []⟩ := ⟨hb, in0.op, in0.d, in64_1, in0.a, in0.b, in0.c, in0.args, in0.few⟩
  have hn0 := branch_near (m := ⟨O, 0, 0, A, B, 0, b, []⟩) ho rfl hA hBB
  have hn1 := branch_far (m := ⟨O, 0, 1, A, B, 0, b, []⟩) ho rfl hA hBB
  have hl0 := putE_ok (m := ⟨O, 0, 0, A, B, 0, b, []⟩)
  have hl1 := putE_ok (m := ⟨O, 0, 1, A, B, 0, b, []⟩)
  obtain ⟨hz1, hz0, hz2⟩ := branch_size O A B b ho
  have p0 : ∀ W, Below w.heap.size w W → Calls Tryd.prog 14 #[.agg #[.int .i64 O, .int .i64 0, .int .i64 0, .int .i64 A, .int .i64 B, .int .i64 0, .int .i32 b, .slice none 0 0]] W fun e w' => e = .returned (.tuple #[.string (bs (putS ⟨O, 0, 0, A, B, 0, b, []⟩)), .int .i64 (putE ⟨O, 0, 0, A, B, 0, b, []⟩)]) ∧ Below W.heap.size W w' := fun W hW => put_any _ in0 none 0 W (args_nil _ rfl W) (tabIs_below HT.out hW)
  have p1 : ∀ W, Below w.heap.size w W → Calls Tryd.prog 14 #[.agg #[.int .i64 O, .int .i64 0, .int .i64 1, .int .i64 A, .int .i64 B, .int .i64 0, .int .i32 b, .slice none 0 0]] W fun e w' => e = .returned (.tuple #[.string (bs (putS ⟨O, 0, 1, A, B, 0, b, []⟩)), .int .i64 (putE ⟨O, 0, 1, A, B, 0, b, []⟩)]) ∧ Below W.heap.size W w' := fun W hW => put_any _ inE none 0 W (args_nil _ rfl W) (tabIs_below HT.out hW)
  have s0 : ∀ W, Below w.heap.size w W → Calls Tryd.prog 19 #[.agg #[.int .i64 O, .int .i64 0, .int .i64 0, .int .i64 A, .int .i64 B, .int .i64 0, .int .i32 b, .slice none 0 0]] W fun e w' => e = .returned (.int .i64 (sizeM ⟨O, 0, 0, A, B, 0, b, []⟩)) ∧ Below W.heap.size W w' := fun W hW => size_any _ none 0 W (args_nil _ rfl W) (tabIs_below HT.out hW)
  have s1 : ∀ W, Below w.heap.size w W → Calls Tryd.prog 19 #[.agg #[.int .i64 O, .int .i64 0, .int .i64 1, .int .i64 A, .int .i64 B, .int .i64 0, .int .i32 b, .slice none 0 0]] W fun e w' => e = .returned (.int .i64 (sizeM ⟨O, 0, 1, A, B, 0, b, []⟩)) ∧ Below W.heap.size W w' := fun W hW => size_any _ none 0 W (args_nil _ rfl W) (tabIs_below HT.out hW)
  rw [hz1] at s1 hl1
  generalize sizeM ⟨O, 0, 0, A, B, 0, b, []⟩ = Z at hz0 hz2 s0 s1 hl0 hl1
  generalize putS ⟨O, 0, 0, A, B, 0, b, []⟩ = S0 at p0 hl0
  generalize putS ⟨O, 0, 1, A, B, 0, b, []⟩ = S1 at p1 hl1
  generalize putE ⟨O, 0, 0, A, B, 0, b, []⟩ = E0 at p0 hl0 hn0
  generalize putE ⟨O, 0, 1, A, B, 0, b, []⟩ = E1 at p1 hl1 hn1
  have hi := alloc_at w1 (.cells #[.int .i64 O, .int .i64 0, .int .i64 0, .int .i64 A, .int .i64 B, .int .i64 0, .int .i32 b, .slice none 0 0] 24)
  have hB := below_alloc HB1.out (.cells #[.int .i64 O, .int .i64 0, .int .i64 0, .int .i64 A, .int .i64 B, .int .i64 0, .int .i32 b, .slice none 0 0] 24)
  generalize w1.alloc (.cells #[.int .i64 O, .int .i64 0, .int .i64 0, .int .i64 A, .int .i64 B, .int .i64 0, .int .i32 b, .slice none 0 0] 24) = V2 at hi hB ⊢
  have hge : w.heap.size ≤ w1.heap.size := HB1.out.size
  have hcase : (E0 = 0 ∧ E1 = 0 ∧ decide (-128 ≤ b ∧ b ≤ 127) = true ∧ decide (-8388608 ≤ b) = true ∧ decide (b < 8388608) = true ∧ (S0.length : Int) = Z ∧ (S1.length : Int) = Z + 2) ∨
      (E0 = 61 ∧ E1 = 0 ∧ decide (-128 ≤ b ∧ b ≤ 127) = false ∧ decide (-8388608 ≤ b) = true ∧ decide (b < 8388608) = true ∧ (S1.length : Int) = Z + 2) ∨
      (E0 = 61 ∧ E1 = 61 ∧ decide (-128 ≤ b ∧ b ≤ 127) = false ∧ ((decide (-8388608 ≤ b) = true ∧ decide (b < 8388608) = false) ∨ decide (-8388608 ≤ b) = false)) := by
    by_cases h1 : -128 ≤ b ∧ b ≤ 127
    · rw [if_pos h1] at hn0
      rw [if_pos (by constructor <;> (simp only []; omega))] at hn1
      exact .inl ⟨hn0, hn1, by simpa using h1, by simp; omega, by simp; omega, hl0 hn0, hl1 hn1⟩
    · rw [if_neg h1] at hn0
      by_cases h2 : -8388608 ≤ b ∧ b ≤ 8388607
      · rw [if_pos h2] at hn1
        exact .inr (.inl ⟨hn0, hn1, by simp; omega, by simp; omega, by simp; omega, hl1 hn1⟩)
      · rw [if_neg h2] at hn1
        refine .inr (.inr ⟨hn0, hn1, by simp; omega, ?_⟩)
        by_cases h3 : -8388608 ≤ b
        · exact .inl ⟨by simpa using h3, by simp; omega⟩
        · exact .inr (by simpa using h3)
  have HP0 := Lib.hid p0
  have HP1 := Lib.hid p1
  have HS0 := Lib.hid s0
  have HS1 := Lib.hid s1
  have HBB := Lib.hid hB
  have HI := Lib.hid hi
  clear p0 p1 s0 s1 hn0 hn1 hl0 hl1 hz1 a1 a2 c0 c1 hB hi hb in0 inE HB1
  rcases hcase with ⟨rfl, rfl, q1, q2, q3, q4, q5⟩ | ⟨rfl, rfl, q1, q2, q3, q5⟩ | ⟨rfl, rfl, q1, (⟨q2, q3⟩ | q2)⟩
  · have Q1 := Lib.hid q1
    have Q4 := Lib.hid q4
    have Q5 := Lib.hid q5
    clear q1 q4 q5
    refine (HP0.out _ HBB.out).mono ?_
    rintro e w2 ⟨rfl, hb⟩
    have hi2 := (hb.block _ (blk_lt' HI.out)).trans HI.out
    have hB2 := below_step HBB.out hb
    have d0a : w2.cell? ⟨w1.heap.size, 0, none⟩ = some (.int .i64 O) := (cell_blk hi2 0).trans rfl
    have d1a : w2.cell? ⟨w1.heap.size, 1, none⟩ = some (.int .i64 0) := (cell_blk hi2 1).trans rfl
    have d2a : w2.cell? ⟨w1.heap.size, 2, none⟩ = some (.int .i64 0) := (cell_blk hi2 2).trans rfl
    have d3a : w2.cell? ⟨w1.heap.size, 3, none⟩ = some (.int .i64 A) := (cell_blk hi2 3).trans rfl
    have d4a : w2.cell? ⟨w1.heap.size, 4, none⟩ = some (.int .i64 B) := (cell_blk hi2 4).trans rfl
    have d5a : w2.cell? ⟨w1.heap.size, 5, none⟩ = some (.int .i64 0) := (cell_blk hi2 5).trans rfl
    have d6a : w2.cell? ⟨w1.heap.size, 6, none⟩ = some (.int .i32 b) := (cell_blk hi2 6).trans rfl
    have d7a : w2.cell? ⟨w1.heap.size, 7, none⟩ = some (.slice none 0 0) := (cell_blk hi2 7).trans rfl
    have HI2 := Lib.hid hi2
    have HB2 := Lib.hid hB2
    clear hb hi2 hB2 HP0 HBB HI
    go_wp2_with fail
    refine (reaches_any _ _).mono ?_
    rintro e w3 ⟨rfl, rfl⟩
    rw [Q1.out]
    go_wp2_with fail
    refine (HS0.out _ HB2.out).mono ?_
    rintro e w3 ⟨rfl, hb⟩
    have hi3 := (hb.block _ (blk_lt' HI2.out)).trans HI2.out
    have hB3 := below_step HB2.out hb
    have d0b : w3.cell? ⟨w1.heap.size, 0, none⟩ = some (.int .i64 O) := (cell_blk hi3 0).trans rfl
    have d1b : w3.cell? ⟨w1.heap.size, 1, none⟩ = some (.int .i64 0) := (cell_blk hi3 1).trans rfl
    have d2b : w3.cell? ⟨w1.heap.size, 2, none⟩ = some (.int .i64 0) := (cell_blk hi3 2).trans rfl
    have d3b : w3.cell? ⟨w1.heap.size, 3, none⟩ = some (.int .i64 A) := (cell_blk hi3 3).trans rfl
    have d4b : w3.cell? ⟨w1.heap.size, 4, none⟩ = some (.int .i64 B) := (cell_blk hi3 4).trans rfl
    have d5b : w3.cell? ⟨w1.heap.size, 5, none⟩ = some (.int .i64 0) := (cell_blk hi3 5).trans rfl
    have d6b : w3.cell? ⟨w1.heap.size, 6, none⟩ = some (.int .i32 b) := (cell_blk hi3 6).trans rfl
    have d7b : w3.cell? ⟨w1.heap.size, 7, none⟩ = some (.slice none 0 0) := (cell_blk hi3 7).trans rfl
    have z2 : w3.frozen? ⟨w1.heap.size, 2, none⟩ = false := froz_blk hi3 2
    have hi4 := set_cells hi3 2 (.int .i64 1)
    have hB4 := below_set hB3 hge 2 (.int .i64 1)
    have HI4 := Lib.hid hi4
    have HB4 := Lib.hid hB4
    clear hb hi3 hB3 HI2 HB2 hi4 hB4 d0a d1a d2a d3a d4a d5a d6a d7a
    go_wp2_with fail
    refine (HP1.out _ HB4.out).mono ?_
    rintro e w5 ⟨rfl, hb⟩
    have hi5 := (hb.block _ (blk_lt' HI4.out)).trans HI4.out
    have hB5 := below_step HB4.out hb
    have d0c : w5.cell? ⟨w1.heap.size, 0, none⟩ = some (.int .i64 O) := (cell_blk hi5 0).trans rfl
    have d1c : w5.cell? ⟨w1.heap.size, 1, none⟩ = some (.int .i64 0) := (cell_blk hi5 1).trans rfl
    have d2c : w5.cell? ⟨w1.heap.size, 2, none⟩ = some (.int .i64 1) := (cell_blk hi5 2).trans rfl
    have d3c : w5.cell? ⟨w1.heap.size, 3, none⟩ = some (.int .i64 A) := (cell_blk hi5 3).trans rfl
    have d4c : w5.cell? ⟨w1.heap.size, 4, none⟩ = some (.int .i64 B) := (cell_blk hi5 4).trans rfl
    have d5c : w5.cell? ⟨w1.heap.size, 5, none⟩ = some (.int .i64 0) := (cell_blk hi5 5).trans rfl
    have d6c : w5.cell? ⟨w1.heap.size, 6, none⟩ = some (.int .i32 b) := (cell_blk hi5 6).trans rfl
    have d7c : w5.cell? ⟨w1.heap.size, 7, none⟩ = some (.slice none 0 0) := (cell_blk hi5 7).trans rfl
    have HB5 := Lib.hid hB5
    clear hb hi5 hB5 HI4 HB4 d0b d1b d2b d3b d4b d5b d6b d7b z2
    go_wp2_with fail
    refine (HS1.out _ HB5.out).mono ?_
    rintro e w6 ⟨rfl, hb⟩
    have HB6 := Lib.hid (below_step HB5.out hb)
    have b4 : ((S0.length : Int) == Z) = true := by rw [beq_iff_eq]; exact Q4.out
    have b4' : ((bs S0).size : Int) = Z := by rw [bs_size]; exact Q4.out
    have B4' := Lib.hid b4'
    clear b4'
    have b5 : ((S1.length : Int) == Z + 2) = true := by rw [beq_iff_eq]; exact Q5.out
    clear hb
    go_wp2_with fail
    go_ret
    exact ⟨rfl, HB6.out⟩
  · have Q1 := Lib.hid q1
    have Q5 := Lib.hid q5
    clear q1 q5
    refine (HP0.out _ HBB.out).mono ?_
    rintro e w2 ⟨rfl, hb⟩
    have hi2 := (hb.block _ (blk_lt' HI.out)).trans HI.out
    have hB2 := below_step HBB.out hb
    have d0a : w2.cell? ⟨w1.heap.size, 0, none⟩ = some (.int .i64 O) := (cell_blk hi2 0).trans rfl
    have d1a : w2.cell? ⟨w1.heap.size, 1, none⟩ = some (.int .i64 0) := (cell_blk hi2 1).trans rfl
    have d2a : w2.cell? ⟨w1.heap.size, 2, none⟩ = some (.int .i64 0) := (cell_blk hi2 2).trans rfl
    have d3a : w2.cell? ⟨w1.heap.size, 3, none⟩ = some (.int .i64 A) := (cell_blk hi2 3).trans rfl
    have d4a : w2.cell? ⟨w1.heap.size, 4, none⟩ = some (.int .i64 B) := (cell_blk hi2 4).trans rfl
    have d5a : w2.cell? ⟨w1.heap.size, 5, none⟩ = some (.int .i64 0) := (cell_blk hi2 5).trans rfl
    have d6a : w2.cell? ⟨w1.heap.size, 6, none⟩ = some (.int .i32 b) := (cell_blk hi2 6).trans rfl
    have d7a : w2.cell? ⟨w1.heap.size, 7, none⟩ = some (.slice none 0 0) := (cell_blk hi2 7).trans rfl
    have HI2 := Lib.hid hi2
    have HB2 := Lib.hid hB2
    clear hb hi2 hB2 HP0 HBB HI
    go_wp2_with fail
    refine (reaches_any _ _).mono ?_
    rintro e w3 ⟨rfl, rfl⟩
    rw [Q1.out]
    go_wp2_with fail
    refine (HS0.out _ HB2.out).mono ?_
    rintro e w3 ⟨rfl, hb⟩
    have hi3 := (hb.block _ (blk_lt' HI2.out)).trans HI2.out
    have hB3 := below_step HB2.out hb
    have d0b : w3.cell? ⟨w1.heap.size, 0, none⟩ = some (.int .i64 O) := (cell_blk hi3 0).trans rfl
    have d1b : w3.cell? ⟨w1.heap.size, 1, none⟩ = some (.int .i64 0) := (cell_blk hi3 1).trans rfl
    have d2b : w3.cell? ⟨w1.heap.size, 2, none⟩ = some (.int .i64 0) := (cell_blk hi3 2).trans rfl
    have d3b : w3.cell? ⟨w1.heap.size, 3, none⟩ = some (.int .i64 A) := (cell_blk hi3 3).trans rfl
    have d4b : w3.cell? ⟨w1.heap.size, 4, none⟩ = some (.int .i64 B) := (cell_blk hi3 4).trans rfl
    have d5b : w3.cell? ⟨w1.heap.size, 5, none⟩ = some (.int .i64 0) := (cell_blk hi3 5).trans rfl
    have d6b : w3.cell? ⟨w1.heap.size, 6, none⟩ = some (.int .i32 b) := (cell_blk hi3 6).trans rfl
    have d7b : w3.cell? ⟨w1.heap.size, 7, none⟩ = some (.slice none 0 0) := (cell_blk hi3 7).trans rfl
    have z2 : w3.frozen? ⟨w1.heap.size, 2, none⟩ = false := froz_blk hi3 2
    have hi4 := set_cells hi3 2 (.int .i64 1)
    have hB4 := below_set hB3 hge 2 (.int .i64 1)
    have HI4 := Lib.hid hi4
    have HB4 := Lib.hid hB4
    clear hb hi3 hB3 HI2 HB2 hi4 hB4 d0a d1a d2a d3a d4a d5a d6a d7a
    go_wp2_with fail
    refine (HP1.out _ HB4.out).mono ?_
    rintro e w5 ⟨rfl, hb⟩
    have hi5 := (hb.block _ (blk_lt' HI4.out)).trans HI4.out
    have hB5 := below_step HB4.out hb
    have d0c : w5.cell? ⟨w1.heap.size, 0, none⟩ = some (.int .i64 O) := (cell_blk hi5 0).trans rfl
    have d1c : w5.cell? ⟨w1.heap.size, 1, none⟩ = some (.int .i64 0) := (cell_blk hi5 1).trans rfl
    have d2c : w5.cell? ⟨w1.heap.size, 2, none⟩ = some (.int .i64 1) := (cell_blk hi5 2).trans rfl
    have d3c : w5.cell? ⟨w1.heap.size, 3, none⟩ = some (.int .i64 A) := (cell_blk hi5 3).trans rfl
    have d4c : w5.cell? ⟨w1.heap.size, 4, none⟩ = some (.int .i64 B) := (cell_blk hi5 4).trans rfl
    have d5c : w5.cell? ⟨w1.heap.size, 5, none⟩ = some (.int .i64 0) := (cell_blk hi5 5).trans rfl
    have d6c : w5.cell? ⟨w1.heap.size, 6, none⟩ = some (.int .i32 b) := (cell_blk hi5 6).trans rfl
    have d7c : w5.cell? ⟨w1.heap.size, 7, none⟩ = some (.slice none 0 0) := (cell_blk hi5 7).trans rfl
    have HB5 := Lib.hid hB5
    clear hb hi5 hB5 HI4 HB4 d0b d1b d2b d3b d4b d5b d6b d7b z2
    go_wp2_with fail
    refine (HS1.out _ HB5.out).mono ?_
    rintro e w6 ⟨rfl, hb⟩
    have HB6 := Lib.hid (below_step HB5.out hb)
    have b5 : ((S1.length : Int) == Z + 2) = true := by rw [beq_iff_eq]; exact Q5.out
    clear hb
    go_wp2_with fail
    go_ret
    exact ⟨rfl, HB6.out⟩
  · have Q1 := Lib.hid q1
    clear q1
    refine (HP0.out _ HBB.out).mono ?_
    rintro e w2 ⟨rfl, hb⟩
    have hi2 := (hb.block _ (blk_lt' HI.out)).trans HI.out
    have hB2 := below_step HBB.out hb
    have d0a : w2.cell? ⟨w1.heap.size, 0, none⟩ = some (.int .i64 O) := (cell_blk hi2 0).trans rfl
    have d1a : w2.cell? ⟨w1.heap.size, 1, none⟩ = some (.int .i64 0) := (cell_blk hi2 1).trans rfl
    have d2a : w2.cell? ⟨w1.heap.size, 2, none⟩ = some (.int .i64 0) := (cell_blk hi2 2).trans rfl
    have d3a : w2.cell? ⟨w1.heap.size, 3, none⟩ = some (.int .i64 A) := (cell_blk hi2 3).trans rfl
    have d4a : w2.cell? ⟨w1.heap.size, 4, none⟩ = some (.int .i64 B) := (cell_blk hi2 4).trans rfl
    have d5a : w2.cell? ⟨w1.heap.size, 5, none⟩ = some (.int .i64 0) := (cell_blk hi2 5).trans rfl
    have d6a : w2.cell? ⟨w1.heap.size, 6, none⟩ = some (.int .i32 b) := (cell_blk hi2 6).trans rfl
    have d7a : w2.cell? ⟨w1.heap.size, 7, none⟩ = some (.slice none 0 0) := (cell_blk hi2 7).trans rfl
    have HI2 := Lib.hid hi2
    have HB2 := Lib.hid hB2
    clear hb hi2 hB2 HP0 HBB HI
    go_wp2_with fail
    refine (reaches_any _ _).mono ?_
    rintro e w3 ⟨rfl, rfl⟩
    rw [Q1.out]
    go_wp2_with fail
    refine (HS0.out _ HB2.out).mono ?_
    rintro e w3 ⟨rfl, hb⟩
    have hi3 := (hb.block _ (blk_lt' HI2.out)).trans HI2.out
    have hB3 := below_step HB2.out hb
    have d0b : w3.cell? ⟨w1.heap.size, 0, none⟩ = some (.int .i64 O) := (cell_blk hi3 0).trans rfl
    have d1b : w3.cell? ⟨w1.heap.size, 1, none⟩ = some (.int .i64 0) := (cell_blk hi3 1).trans rfl
    have d2b : w3.cell? ⟨w1.heap.size, 2, none⟩ = some (.int .i64 0) := (cell_blk hi3 2).trans rfl
    have d3b : w3.cell? ⟨w1.heap.size, 3, none⟩ = some (.int .i64 A) := (cell_blk hi3 3).trans rfl
    have d4b : w3.cell? ⟨w1.heap.size, 4, none⟩ = some (.int .i64 B) := (cell_blk hi3 4).trans rfl
    have d5b : w3.cell? ⟨w1.heap.size, 5, none⟩ = some (.int .i64 0) := (cell_blk hi3 5).trans rfl
    have d6b : w3.cell? ⟨w1.heap.size, 6, none⟩ = some (.int .i32 b) := (cell_blk hi3 6).trans rfl
    have d7b : w3.cell? ⟨w1.heap.size, 7, none⟩ = some (.slice none 0 0) := (cell_blk hi3 7).trans rfl
    have z2 : w3.frozen? ⟨w1.heap.size, 2, none⟩ = false := froz_blk hi3 2
    have hi4 := set_cells hi3 2 (.int .i64 1)
    have hB4 := below_set hB3 hge 2 (.int .i64 1)
    have HI4 := Lib.hid hi4
    have HB4 := Lib.hid hB4
    clear hb hi3 hB3 HI2 HB2 hi4 hB4 d0a d1a d2a d3a d4a d5a d6a d7a
    go_wp2_with fail
    refine (HP1.out _ HB4.out).mono ?_
    rintro e w5 ⟨rfl, hb⟩
    have hi5 := (hb.block _ (blk_lt' HI4.out)).trans HI4.out
    have hB5 := below_step HB4.out hb
    have d0c : w5.cell? ⟨w1.heap.size, 0, none⟩ = some (.int .i64 O) := (cell_blk hi5 0).trans rfl
    have d1c : w5.cell? ⟨w1.heap.size, 1, none⟩ = some (.int .i64 0) := (cell_blk hi5 1).trans rfl
    have d2c : w5.cell? ⟨w1.heap.size, 2, none⟩ = some (.int .i64 1) := (cell_blk hi5 2).trans rfl
    have d3c : w5.cell? ⟨w1.heap.size, 3, none⟩ = some (.int .i64 A) := (cell_blk hi5 3).trans rfl
    have d4c : w5.cell? ⟨w1.heap.size, 4, none⟩ = some (.int .i64 B) := (cell_blk hi5 4).trans rfl
    have d5c : w5.cell? ⟨w1.heap.size, 5, none⟩ = some (.int .i64 0) := (cell_blk hi5 5).trans rfl
    have d6c : w5.cell? ⟨w1.heap.size, 6, none⟩ = some (.int .i32 b) := (cell_blk hi5 6).trans rfl
    have d7c : w5.cell? ⟨w1.heap.size, 7, none⟩ = some (.slice none 0 0) := (cell_blk hi5 7).trans rfl
    have HB5 := Lib.hid hB5
    clear hb hi5 hB5 HI4 HB4 d0b d1b d2b d3b d4b d5b d6b d7b z2
    go_wp2_with fail
    refine (HS1.out _ HB5.out).mono ?_
    rintro e w6 ⟨rfl, hb⟩
    have HB6 := Lib.hid (below_step HB5.out hb)
    clear hb
    go_wp2_with fail
    go_ret
    exact ⟨rfl, HB6.out⟩
  · have Q1 := Lib.hid q1
    clear q1
    refine (HP0.out _ HBB.out).mono ?_
    rintro e w2 ⟨rfl, hb⟩
    have hi2 := (hb.block _ (blk_lt' HI.out)).trans HI.out
    have hB2 := below_step HBB.out hb
    have d0a : w2.cell? ⟨w1.heap.size, 0, none⟩ = some (.int .i64 O) := (cell_blk hi2 0).trans rfl
    have d1a : w2.cell? ⟨w1.heap.size, 1, none⟩ = some (.int .i64 0) := (cell_blk hi2 1).trans rfl
    have d2a : w2.cell? ⟨w1.heap.size, 2, none⟩ = some (.int .i64 0) := (cell_blk hi2 2).trans rfl
    have d3a : w2.cell? ⟨w1.heap.size, 3, none⟩ = some (.int .i64 A) := (cell_blk hi2 3).trans rfl
    have d4a : w2.cell? ⟨w1.heap.size, 4, none⟩ = some (.int .i64 B) := (cell_blk hi2 4).trans rfl
    have d5a : w2.cell? ⟨w1.heap.size, 5, none⟩ = some (.int .i64 0) := (cell_blk hi2 5).trans rfl
    have d6a : w2.cell? ⟨w1.heap.size, 6, none⟩ = some (.int .i32 b) := (cell_blk hi2 6).trans rfl
    have d7a : w2.cell? ⟨w1.heap.size, 7, none⟩ = some (.slice none 0 0) := (cell_blk hi2 7).trans rfl
    have HI2 := Lib.hid hi2
    have HB2 := Lib.hid hB2
    clear hb hi2 hB2 HP0 HBB HI
    go_wp2_with fail
    refine (reaches_any _ _).mono ?_
    rintro e w3 ⟨rfl, rfl⟩
    rw [Q1.out]
    go_wp2_with fail
    refine (HS0.out _ HB2.out).mono ?_
    rintro e w3 ⟨rfl, hb⟩
    have hi3 := (hb.block _ (blk_lt' HI2.out)).trans HI2.out
    have hB3 := below_step HB2.out hb
    have d0b : w3.cell? ⟨w1.heap.size, 0, none⟩ = some (.int .i64 O) := (cell_blk hi3 0).trans rfl
    have d1b : w3.cell? ⟨w1.heap.size, 1, none⟩ = some (.int .i64 0) := (cell_blk hi3 1).trans rfl
    have d2b : w3.cell? ⟨w1.heap.size, 2, none⟩ = some (.int .i64 0) := (cell_blk hi3 2).trans rfl
    have d3b : w3.cell? ⟨w1.heap.size, 3, none⟩ = some (.int .i64 A) := (cell_blk hi3 3).trans rfl
    have d4b : w3.cell? ⟨w1.heap.size, 4, none⟩ = some (.int .i64 B) := (cell_blk hi3 4).trans rfl
    have d5b : w3.cell? ⟨w1.heap.size, 5, none⟩ = some (.int .i64 0) := (cell_blk hi3 5).trans rfl
    have d6b : w3.cell? ⟨w1.heap.size, 6, none⟩ = some (.int .i32 b) := (cell_blk hi3 6).trans rfl
    have d7b : w3.cell? ⟨w1.heap.size, 7, none⟩ = some (.slice none 0 0) := (cell_blk hi3 7).trans rfl
    have z2 : w3.frozen? ⟨w1.heap.size, 2, none⟩ = false := froz_blk hi3 2
    have hi4 := set_cells hi3 2 (.int .i64 1)
    have hB4 := below_set hB3 hge 2 (.int .i64 1)
    have HI4 := Lib.hid hi4
    have HB4 := Lib.hid hB4
    clear hb hi3 hB3 HI2 HB2 hi4 hB4 d0a d1a d2a d3a d4a d5a d6a d7a
    go_wp2_with fail
    refine (HP1.out _ HB4.out).mono ?_
    rintro e w5 ⟨rfl, hb⟩
    have hi5 := (hb.block _ (blk_lt' HI4.out)).trans HI4.out
    have hB5 := below_step HB4.out hb
    have d0c : w5.cell? ⟨w1.heap.size, 0, none⟩ = some (.int .i64 O) := (cell_blk hi5 0).trans rfl
    have d1c : w5.cell? ⟨w1.heap.size, 1, none⟩ = some (.int .i64 0) := (cell_blk hi5 1).trans rfl
    have d2c : w5.cell? ⟨w1.heap.size, 2, none⟩ = some (.int .i64 1) := (cell_blk hi5 2).trans rfl
    have d3c : w5.cell? ⟨w1.heap.size, 3, none⟩ = some (.int .i64 A) := (cell_blk hi5 3).trans rfl
    have d4c : w5.cell? ⟨w1.heap.size, 4, none⟩ = some (.int .i64 B) := (cell_blk hi5 4).trans rfl
    have d5c : w5.cell? ⟨w1.heap.size, 5, none⟩ = some (.int .i64 0) := (cell_blk hi5 5).trans rfl
    have d6c : w5.cell? ⟨w1.heap.size, 6, none⟩ = some (.int .i32 b) := (cell_blk hi5 6).trans rfl
    have d7c : w5.cell? ⟨w1.heap.size, 7, none⟩ = some (.slice none 0 0) := (cell_blk hi5 7).trans rfl
    have HB5 := Lib.hid hB5
    clear hb hi5 hB5 HI4 HB4 d0b d1b d2b d3b d4b d5b d6b d7b z2
    go_wp2_with fail
    refine (HS1.out _ HB5.out).mono ?_
    rintro e w6 ⟨rfl, hb⟩
    have HB6 := Lib.hid (below_step HB5.out hb)
    clear hb
    go_wp2_with fail
    go_ret
    exact ⟨rfl, HB6.out⟩
end Go.Proofs.YtmoplcchiadlpaaDoor.Jc
