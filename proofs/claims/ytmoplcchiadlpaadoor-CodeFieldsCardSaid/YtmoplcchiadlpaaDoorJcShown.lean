/- jacquardlaw18.shown: the small case that must work is so. -/
import Derived.Test.YtmoplcchiadlpaaDoorJcGet
import Derived.Test.YtmoplcchiadlpaaDoorJcText
set_option linter.unusedVariables false
set_option linter.unusedSimpArgs false
namespace Go.Proofs.YtmoplcchiadlpaaDoor.Jc
open Go Go.RowKit Go.ChangeMaps Go.Proofs.YtmoplcchiadlpaaDoorW.PrintWords

def m1 : M := ⟨5, 1, 0, 2, 3, 0, 0, []⟩
def m2 : M := ⟨40, 0, 0, 0, 0, 0, -2, []⟩
def m3 : M := ⟨41, 0, 1, 3, 0, 0, 5, []⟩
def m4 : M := ⟨40, 0, 0, 0, 0, 0, 0, []⟩
theorem inR_of (m : M) (h : (decide (-2147483648 ≤ m.imm) && decide (m.imm ≤ 2147483647) && [m.op, m.d, m.e, m.a, m.b, m.c].all (fun n => decide (-9223372036854775808 ≤ n) && decide (n ≤ 9223372036854775807)) && m.args.all (fun n => decide (-9223372036854775808 ≤ n) && decide (n ≤ 9223372036854775807)) && decide (m.args.length ≤ 1000000)) = true) : InR m := by
  simp only [Bool.and_eq_true, decide_eq_true_eq, List.all_cons, List.all_nil, List.all_eq_true, and_true] at h
  obtain ⟨⟨⟨⟨h1, h2⟩, h3, h4, h5, h6, h7, h8⟩, h9⟩, h10⟩ := h
  exact ⟨⟨h1, h2⟩, h3, h4, h5, h6, h7, h8, fun x hx => h9 x hx, h10⟩
theorem in1 : InR m1 := inR_of m1 (by decide)
theorem in2 : InR m2 := inR_of m2 (by decide)
theorem in3 : InR m3 := inR_of m3 (by decide)
theorem in4 : InR m4 := inR_of m4 (by decide)
theorem put1S : putS m1 = [5, 18, 48] ∧ putE m1 = 0 := by constructor <;> decide +kernel
theorem put2S : putS m2 = [40, 254] ∧ putE m2 = 0 := by constructor <;> decide +kernel
theorem put3S : putS m3 = [169, 48, 0, 0, 5] ∧ putE m3 = 0 := by constructor <;> decide +kernel
theorem get1S : getI [5, 18, 48, 120] = m1 ∧ getN [5, 18, 48, 120] = 3 ∧ getE [5, 18, 48, 120] = 0 := ⟨by kernel_rfl, by kernel_rfl, by kernel_rfl⟩
theorem get2S : getE [] = 62 := by decide +kernel
theorem get3S : getE [5, 18, 49] = 60 := by decide +kernel
theorem text3S : textM m3 = [98, 110, 122, 46, 108, 32, 114, 51, 32, 53] := by decide +kernel
theorem size4S : sizeM m4 = 2 := by decide +kernel
theorem name49 : nameOf 49 = [106, 116] := by decide +kernel
theorem args_nil (m : M) (h : m.args = []) (W : World) : ArgsIn W m none 0 := args_none h W

set_option maxRecDepth 100000 in
set_option maxHeartbeats 2000000 in
theorem shown_any (w : World) (htab : Lib.TabIs Tryd.prog w "strings.asciiSpace" .u8 Lib.asciiSpaceTab) (hpow : Lib.TabIs Tryd.prog w "internal/strconv.uint64pow10" .u64 Lib.pow10Tab) :
    Calls Tryd.prog 12 #[] w fun e w' => e = .returned (.bool true) ∧ Below w.heap.size w w' := by
  have HT := Lib.hid htab
  have HP := Lib.hid hpow
  clear htab hpow
  have p1 : ∀ W : World, Below w.heap.size w W → Calls Tryd.prog 14 #[.agg #[.int .i64 5, .int .i64 1, .int .i64 0, .int .i64 2, .int .i64 3, .int .i64 0, .int .i32 0, .slice none 0 0]] W fun e w' => e = .returned (.tuple #[.string ⟨#[5, 18, 48]⟩, .int .i64 0]) ∧ Below W.heap.size W w' := fun W hW => by
    have h := put_any m1 in1 none 0 W (args_nil m1 rfl W) (tabIs_below HT.out hW)
    rw [put1S.1, put1S.2] at h
    exact h
  have p2 : ∀ W : World, Below w.heap.size w W → Calls Tryd.prog 14 #[.agg #[.int .i64 40, .int .i64 0, .int .i64 0, .int .i64 0, .int .i64 0, .int .i64 0, .int .i32 (-2), .slice none 0 0]] W fun e w' => e = .returned (.tuple #[.string ⟨#[40, 254]⟩, .int .i64 0]) ∧ Below W.heap.size W w' := fun W hW => by
    have h := put_any m2 in2 none 0 W (args_nil m2 rfl W) (tabIs_below HT.out hW)
    rw [put2S.1, put2S.2] at h
    exact h
  have p3 : ∀ W : World, Below w.heap.size w W → Calls Tryd.prog 14 #[.agg #[.int .i64 41, .int .i64 0, .int .i64 1, .int .i64 3, .int .i64 0, .int .i64 0, .int .i32 5, .slice none 0 0]] W fun e w' => e = .returned (.tuple #[.string ⟨#[169, 48, 0, 0, 5]⟩, .int .i64 0]) ∧ Below W.heap.size W w' := fun W hW => by
    have h := put_any m3 in3 none 0 W (args_nil m3 rfl W) (tabIs_below HT.out hW)
    rw [put3S.1, put3S.2] at h
    exact h
  have P1 := Lib.hid p1
  have P2 := Lib.hid p2
  have P3 := Lib.hid p3
  clear p1 p2 p3
  go_enter Tryd.func12, Tryd.ntmps12
  go_wp2_with fail
  refine (P1.out _ (Below.refl _ _)).mono ?_
  rintro e w1 ⟨rfl, hb⟩
  have HB1 := Lib.hid hb
  clear hb
  go_wp2_with fail
  refine (P2.out _ HB1.out).mono ?_
  rintro e w2 ⟨rfl, hb⟩
  have HB2 := Lib.hid (below_step HB1.out hb)
  clear hb HB1
  go_wp2_with fail
  refine (P3.out _ HB2.out).mono ?_
  rintro e w3 ⟨rfl, hb⟩
  have HB3 := Lib.hid (below_step HB2.out hb)
  clear hb HB2
  go_wp2_with fail
  refine (get_any [5, 18, 48, 120] (by decide) _ (tabIs_below HT.out HB3.out)).mono ?_
  rintro e w4 ⟨a, c, rfl, hb, _, _⟩
  rw [get1S.1, get1S.2.1, get1S.2.2]
  have HB4 := Lib.hid (below_step HB3.out hb)
  clear hb HB3
  unfold cellsM m1
  go_wp2_with fail
  have hK := alloc_at w4 (.cells #[.int .i64 5, .int .i64 1, .int .i64 0, .int .i64 2, .int .i64 3, .int .i64 0, .int .i32 0, .slice a 0 c] 24)
  have hB := below_alloc HB4.out (.cells #[.int .i64 5, .int .i64 1, .int .i64 0, .int .i64 2, .int .i64 3, .int .i64 0, .int .i32 0, .slice a 0 c] 24)
  generalize w4.alloc (.cells #[.int .i64 5, .int .i64 1, .int .i64 0, .int .i64 2, .int .i64 3, .int .i64 0, .int .i32 0, .slice a 0 c] 24) = V4 at hK hB ⊢
  refine (get_any [] (by decide) _ (tabIs_below HT.out hB)).mono ?_
  rintro e w5 ⟨a5, c5, rfl, hb, _, _⟩
  rw [get2S]
  have HK5 := Lib.hid ((hb.block _ (blk_lt' hK)).trans hK)
  have HB5 := Lib.hid (below_step hB hb)
  clear hb hK hB HB4
  unfold cellsM
  generalize getI [] = g5
  generalize getN [] = n5
  go_wp2_with fail
  have hK := alloc_old (o := .cells #[.int .i64 g5.op, .int .i64 g5.d, .int .i64 g5.e, .int .i64 g5.a, .int .i64 g5.b, .int .i64 g5.c, .int .i32 g5.imm, .slice a5 g5.args.length c5] 24) HK5.out
  have hB := below_alloc HB5.out (.cells #[.int .i64 g5.op, .int .i64 g5.d, .int .i64 g5.e, .int .i64 g5.a, .int .i64 g5.b, .int .i64 g5.c, .int .i32 g5.imm, .slice a5 g5.args.length c5] 24)
  generalize w5.alloc (.cells #[.int .i64 g5.op, .int .i64 g5.d, .int .i64 g5.e, .int .i64 g5.a, .int .i64 g5.b, .int .i64 g5.c, .int .i32 g5.imm, .slice a5 g5.args.length c5] 24) = V5 at hK hB ⊢
  refine (get_any [5, 18, 49] (by decide) _ (tabIs_below HT.out hB)).mono ?_
  rintro e w6 ⟨a6, c6, rfl, hb, _, _⟩
  rw [get3S]
  have HK6 := Lib.hid ((hb.block _ (blk_lt' hK)).trans hK)
  have HB6 := Lib.hid (below_step hB hb)
  clear hb hK hB HB5 HK5
  unfold cellsM
  generalize getI [5, 18, 49] = g6
  generalize getN [5, 18, 49] = n6
  go_wp2_with fail
  have hK := alloc_old (o := .cells #[.int .i64 g6.op, .int .i64 g6.d, .int .i64 g6.e, .int .i64 g6.a, .int .i64 g6.b, .int .i64 g6.c, .int .i32 g6.imm, .slice a6 g6.args.length c6] 24) HK6.out
  have hB := below_alloc HB6.out (.cells #[.int .i64 g6.op, .int .i64 g6.d, .int .i64 g6.e, .int .i64 g6.a, .int .i64 g6.b, .int .i64 g6.c, .int .i32 g6.imm, .slice a6 g6.args.length c6] 24)
  generalize w6.alloc (.cells #[.int .i64 g6.op, .int .i64 g6.d, .int .i64 g6.e, .int .i64 g6.a, .int .i64 g6.b, .int .i64 g6.c, .int .i32 g6.imm, .slice a6 g6.args.length c6] 24) = V6 at hK hB ⊢
  have ht := text_any m3 in3 none 0 V6 (args_nil m3 rfl V6) (tabIs_below HT.out hB) (tabIs_below HP.out hB)
  rw [text3S] at ht
  refine ht.mono ?_
  rintro e w7 ⟨rfl, hb⟩
  have hk7 := (hb.block _ (blk_lt' hK)).trans hK
  have k0 := cell_blk hk7 0
  have k1 := cell_blk hk7 1
  have k3 := cell_blk hk7 3
  have k4 := cell_blk hk7 4
  have HB7 := Lib.hid (below_step hB hb)
  clear ht hb hK hB HB6 HK6 hk7
  have hs : ∀ W : World, Below w.heap.size w W → Calls Tryd.prog 19 #[.agg #[.int .i64 40, .int .i64 0, .int .i64 0, .int .i64 0, .int .i64 0, .int .i64 0, .int .i32 0, .slice none 0 0]] W fun e w' => e = .returned (.int .i64 2) ∧ Below W.heap.size W w' := fun W hW => by
    have h := size_any m4 none 0 W (args_nil m4 rfl W) (tabIs_below HT.out hW)
    rw [size4S] at h
    exact h
  have hn : ∀ W : World, Below w.heap.size w W → Calls Tryd.prog 17 #[.int .i64 49] W fun e w' => e = .returned (.string ⟨#[106, 116]⟩) ∧ Below W.heap.size W w' := fun W hW => by
    have h := name_any 49 W (tabIs_below HT.out hW)
    rw [name49] at h
    exact h
  have HS := Lib.hid hs
  have HN := Lib.hid hn
  clear hs hn P1 P2 P3
  go_wp2_with fail
  refine (HS.out _ HB7.out).mono ?_
  rintro e w8 ⟨rfl, hb⟩
  have HB8 := Lib.hid (below_step HB7.out hb)
  clear hb
  go_wp2_with fail
  refine (HN.out _ HB8.out).mono ?_
  rintro e w9 ⟨rfl, hb⟩
  have HB9 := Lib.hid (below_step HB8.out hb)
  clear hb
  go_wp2_with fail
  refine (control_any _ _).mono ?_
  rintro e w' ⟨rfl, rfl⟩
  go_wp2_with fail
  refine (control_any _ _).mono ?_
  rintro e w' ⟨rfl, rfl⟩
  go_wp2_with fail
  refine (reaches_any _ _).mono ?_
  rintro e w' ⟨rfl, rfl⟩
  go_wp2_with fail
  refine (reaches_any _ _).mono ?_
  rintro e w' ⟨rfl, rfl⟩
  go_wp2_with fail
  go_ret
  exact ⟨rfl, HB9.out⟩
end Go.Proofs.YtmoplcchiadlpaaDoor.Jc
