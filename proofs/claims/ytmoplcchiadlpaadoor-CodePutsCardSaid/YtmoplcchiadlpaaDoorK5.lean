/- jacquardlaw18.shown: the small case that must work is so. jacquardlaw18.CodePuts, walked: it returns true. -/
import Derived.Test.YtmoplcchiadlpaaDoorK4
import Derived.Test.YtmoplcchiadlpaaDoorK1
import Derived.Deep.RegionHeld3
import Derived.Deep.DeepCutAuto
import Derived.Deep.CutBlock
section
set_option linter.unusedVariables false
set_option linter.unusedSimpArgs false
namespace Go.Proofs.YtmoplcchiadlpaaDoor.Jc
open Go Go.RowKit Go.ChangeMaps Go.Proofs.YtmoplcchiadlpaaDoorW.PrintWords

def m1 : M := ⟨5, 1, 0, 2, 3, 0, 0, []⟩
def m2 : M := ⟨40, 0, 0, 0, 0, 0, -2, []⟩
def m3 : M := ⟨41, 0, 1, 3, 0, 0, 5, []⟩
def m4 : M := ⟨40, 0, 0, 0, 0, 0, 0, []⟩
theorem inR_of (m : M) (h : (decide (-2147483648 ≤ m.imm) && decide (m.imm ≤ 2147483647) && [m.op, m.d, m.e, m.a, m.b, m.c].all (fun n => decide (-9223372036854775808 ≤ n) && decide (n ≤ 9223372036854775807)) && m.args.all (fun n => decide (-9223372036854775808 ≤ n) && decide (n ≤ 9223372036854775807)) && decide (m.args.length ≤ 1000000)) = true) : InR m := by
  simp only [Bool.and_eq_true, decide_eq_true_eq, List.all_cons, List.all_nil, List.all_eq_true, and_true] at h
  obtain ⟨⟨⟨⟨h1, h2⟩, h3, h4, h5, h6, h7, h8⟩, h9⟩, h10⟩ := h
  exact ⟨⟨h1, h2⟩, h3, h4, h5, h6, h7, h8, fun x hx => h9 x hx, h10⟩
theorem in1 : InR m1 := inR_of m1 (by decide)
theorem in2 : InR m2 := inR_of m2 (by decide)
theorem in3 : InR m3 := inR_of m3 (by decide)
theorem put1S : putS m1 = [5, 18, 48] ∧ putE m1 = 0 := by constructor <;> decide +kernel
theorem put2S : putS m2 = [40, 254] ∧ putE m2 = 0 := by constructor <;> decide +kernel
theorem put3S : putS m3 = [169, 48, 0, 0, 5] ∧ putE m3 = 0 := by constructor <;> decide +kernel
theorem get1S : getI [5, 18, 48, 120] = m1 ∧ getN [5, 18, 48, 120] = 3 ∧ getE [5, 18, 48, 120] = 0 := ⟨by kernel_rfl, by kernel_rfl, by kernel_rfl⟩
theorem get2S : getE [] = 62 := by decide +kernel
theorem get3S : getE [5, 18, 49] = 60 := by decide +kernel
theorem text3S : textM m3 = [98, 110, 122, 46, 108, 32, 114, 51, 32, 53] := by decide +kernel
theorem size4S : sizeM m4 = 2 := by decide +kernel
theorem name49 : nameOf 49 = [106, 116] := by decide +kernel
theorem args_nil (m : M) (h : m.args = []) (W : World) : ArgsIn W m none 0 := args_none h W

set_option maxRecDepth 100000 in
set_option maxHeartbeats 2000000 in
theorem shown_any (w : World) (htab : Lib.TabIs Tryd.prog w "strings.asciiSpace" .u8 Lib.asciiSpaceTab) (hpow : Lib.TabIs Tryd.prog w "internal/strconv.uint64pow10" .u64 Lib.pow10Tab) :
    Calls Tryd.prog 12 #[] w fun e w' => e = .returned (.bool true) ∧ Below w.heap.size w w' := by
  have HT := Lib.hid htab
  have HP := Lib.hid hpow
  clear htab hpow
  have p1 : ∀ W : World, Below w.heap.size w W → Calls Tryd.prog 14 #[.agg #[.int .i64 5, .int .i64 1, .int .i64 0, .int .i64 2, .int .i64 3, .int .i64 0, .int .i32 0, .slice none 0 0]] W fun e w' => e = .returned (.tuple #[.string ⟨#[5, 18, 48]⟩, .int .i64 0]) ∧ Below W.heap.size W w' := fun W hW => by
    have h := put_any m1 in1 none 0 W (args_nil m1 rfl W) (tabIs_below HT.out hW)
    rw [put1S.1, put1S.2] at h
    exact h
  have p2 : ∀ W : World, Below w.heap.size w W → Calls Tryd.prog 14 #[.agg #[.int .i64 40, .int .i64 0, .int .i64 0, .int .i64 0, .int .i64 0, .int .i64 0, .int .i32 (-2), .slice none 0 0]] W fun e w' => e = .returned (.tuple #[.string ⟨#[40, 254]⟩, .int .i64 0]) ∧ Below W.heap.size W w' := fun W hW => by
    have h := put_any m2 in2 none 0 W (args_nil m2 rfl W) (tabIs_below HT.out hW)
    rw [put2S.1, put2S.2] at h
    exact h
  have p3 : ∀ W : World, Below w.heap.size w W → Calls Tryd.prog 14 #[.agg #[.int .i64 41, .int .i64 0, .int .i64 1, .int .i64 3, .int .i64 0, .int .i64 0, .int .i32 5, .slice none 0 0]] W fun e w' => e = .returned (.tuple #[.string ⟨#[169, 48, 0, 0, 5]⟩, .int .i64 0]) ∧ Below W.heap.size W w' := fun W hW => by
    have h := put_any m3 in3 none 0 W (args_nil m3 rfl W) (tabIs_below HT.out hW)
    rw [put3S.1, put3S.2] at h
    exact h
  have P1 := Lib.hid p1
  have P2 := Lib.hid p2
  have P3 := Lib.hid p3
  clear p1 p2 p3
  go_enter Tryd.func12, Tryd.ntmps12
  go_wp2_with fail
  refine (P1.out _ (Below.refl _ _)).mono ?_
  rintro e w1 ⟨rfl, hb⟩
  have HB1 := Lib.hid hb
  clear hb
  go_wp2_with fail
  refine (P2.out _ HB1.out).mono ?_
  rintro e w2 ⟨rfl, hb⟩
  have HB2 := Lib.hid (below_step HB1.out hb)
  clear hb HB1
  go_wp2_with fail
  refine (P3.out _ HB2.out).mono ?_
  rintro e w3 ⟨rfl, hb⟩
  have HB3 := Lib.hid (below_step HB2.out hb)
  clear hb HB2
  go_wp2_with fail
  refine (get_any [5, 18, 48, 120] (by decide) _ (tabIs_below HT.out HB3.out)).mono ?_
  rintro e w4 ⟨a, c, rfl, hb, _, _⟩
  rw [get1S.1, get1S.2.1, get1S.2.2]
  have HB4 := Lib.hid (below_step HB3.out hb)
  clear hb HB3
  unfold cellsM m1
  go_wp2_with fail
  have hK := alloc_at w4 (.cells #[.int .i64 5, .int .i64 1, .int .i64 0, .int .i64 2, .int .i64 3, .int .i64 0, .int .i32 0, .slice a 0 c] 24)
  have hB := below_alloc HB4.out (.cells #[.int .i64 5, .int .i64 1, .int .i64 0, .int .i64 2, .int .i64 3, .int .i64 0, .int .i32 0, .slice a 0 c] 24)
  generalize w4.alloc (.cells #[.int .i64 5, .int .i64 1, .int .i64 0, .int .i64 2, .int .i64 3, .int .i64 0, .int .i32 0, .slice a 0 c] 24) = V4 at hK hB ⊢
  refine (get_any [] (by decide) _ (tabIs_below HT.out hB)).mono ?_
  rintro e w5 ⟨a5, c5, rfl, hb, _, _⟩
  rw [get2S]
  have HK5 := Lib.hid ((hb.block _ (blk_lt' hK)).trans hK)
  have HB5 := Lib.hid (below_step hB hb)
  clear hb hK hB HB4
  unfold cellsM
  generalize getI [] = g5
  generalize getN [] = n5
  go_wp2_with fail
  have hK := alloc_old (o := .cells #[.int .i64 g5.op, .int .i64 g5.d, .int .i64 g5.e, .int .i64 g5.a, .int .i64 g5.b, .int .i64 g5.c, .int .i32 g5.imm, .slice a5 g5.args.length c5] 24) HK5.out
  have hB := below_alloc HB5.out (.cells #[.int .i64 g5.op, .int .i64 g5.d, .int .i64 g5.e, .int .i64 g5.a, .int .i64 g5.b, .int .i64 g5.c, .int .i32 g5.imm, .slice a5 g5.args.length c5] 24)
  generalize w5.alloc (.cells #[.int .i64 g5.op, .int .i64 g5.d, .int .i64 g5.e, .int .i64 g5.a, .int .i64 g5.b, .int .i64 g5.c, .int .i32 g5.imm, .slice a5 g5.args.length c5] 24) = V5 at hK hB ⊢
  refine (get_any [5, 18, 49] (by decide) _ (tabIs_below HT.out hB)).mono ?_
  rintro e w6 ⟨a6, c6, rfl, hb, _, _⟩
  rw [get3S]
  have HK6 := Lib.hid ((hb.block _ (blk_lt' hK)).trans hK)
  have HB6 := Lib.hid (below_step hB hb)
  clear hb hK hB HB5 HK5
  unfold cellsM
  generalize getI [5, 18, 49] = g6
  generalize getN [5, 18, 49] = n6
  go_wp2_with fail
  have hK := alloc_old (o := .cells #[.int .i64 g6.op, .int .i64 g6.d, .int .i64 g6.e, .int .i64 g6.a, .int .i64 g6.b, .int .i64 g6.c, .int .i32 g6.imm, .slice a6 g6.args.length c6] 24) HK6.out
  have hB := below_alloc HB6.out (.cells #[.int .i64 g6.op, .int .i64 g6.d, .int .i64 g6.e, .int .i64 g6.a, .int .i64 g6.b, .int .i64 g6.c, .int .i32 g6.imm, .slice a6 g6.args.length c6] 24)
  generalize w6.alloc (.cells #[.int .i64 g6.op, .int .i64 g6.d, .int .i64 g6.e, .int .i64 g6.a, .int .i64 g6.b, .int .i64 g6.c, .int .i32 g6.imm, .slice a6 g6.args.length c6] 24) = V6 at hK hB ⊢
  have ht := text_any m3 in3 none 0 V6 (args_nil m3 rfl V6) (tabIs_below HT.out hB) (tabIs_below HP.out hB)
  rw [text3S] at ht
  refine ht.mono ?_
  rintro e w7 ⟨rfl, hb⟩
  have hk7 := (hb.block _ (blk_lt' hK)).trans hK
  have k0 := cell_blk hk7 0
  have k1 := cell_blk hk7 1
  have k3 := cell_blk hk7 3
  have k4 := cell_blk hk7 4
  have HB7 := Lib.hid (below_step hB hb)
  clear ht hb hK hB HB6 HK6 hk7
  have hs : ∀ W : World, Below w.heap.size w W → Calls Tryd.prog 19 #[.agg #[.int .i64 40, .int .i64 0, .int .i64 0, .int .i64 0, .int .i64 0, .int .i64 0, .int .i32 0, .slice none 0 0]] W fun e w' => e = .returned (.int .i64 2) ∧ Below W.heap.size W w' := fun W hW => by
    have h := size_any m4 none 0 W (args_nil m4 rfl W) (tabIs_below HT.out hW)
    rw [size4S] at h
    exact h
  have hn : ∀ W : World, Below w.heap.size w W → Calls Tryd.prog 17 #[.int .i64 49] W fun e w' => e = .returned (.string ⟨#[106, 116]⟩) ∧ Below W.heap.size W w' := fun W hW => by
    have h := name_any 49 W (tabIs_below HT.out hW)
    rw [name49] at h
    exact h
  have HS := Lib.hid hs
  have HN := Lib.hid hn
  clear hs hn P1 P2 P3
  go_wp2_with fail
  refine (HS.out _ HB7.out).mono ?_
  rintro e w8 ⟨rfl, hb⟩
  have HB8 := Lib.hid (below_step HB7.out hb)
  clear hb
  go_wp2_with fail
  refine (HN.out _ HB8.out).mono ?_
  rintro e w9 ⟨rfl, hb⟩
  have HB9 := Lib.hid (below_step HB8.out hb)
  clear hb
  go_wp2_with fail
  refine (control_any _ _).mono ?_
  rintro e w' ⟨rfl, rfl⟩
  go_wp2_with fail
  refine (control_any _ _).mono ?_
  rintro e w' ⟨rfl, rfl⟩
  go_wp2_with fail
  refine (reaches_any _ _).mono ?_
  rintro e w' ⟨rfl, rfl⟩
  go_wp2_with fail
  refine (reaches_any _ _).mono ?_
  rintro e w' ⟨rfl, rfl⟩
  go_wp2_with fail
  go_ret
  exact ⟨rfl, HB9.out⟩
end Go.Proofs.YtmoplcchiadlpaaDoor.Jc
end
section
set_option linter.unusedVariables false
set_option linter.unusedSimpArgs false
namespace Go.Proofs.YtmoplcchiadlpaaDoor.Jc
open Go Go.RowKit Go.ChangeMaps Go.Proofs.YtmoplcchiadlpaaDoorW.PrintWords

set_option maxRecDepth 100000 in
set_option maxHeartbeats 8000000 in
theorem puts_walk (w : World) (m0 : M) (a0 : Option Addr) (c0 : Nat) (hm : CameIn w m0 a0 c0) (htab : Lib.TabIs Tryd.prog w "strings.asciiSpace" .u8 Lib.asciiSpaceTab) (hpow : Lib.TabIs Tryd.prog w "internal/strconv.uint64pow10" .u64 Lib.pow10Tab) :
    Calls Tryd.prog 4 #[.agg (cellsM m0 a0 c0)] w fun e w' => e = .returned (.bool true) ∧ Below w.heap.size w w' := by
  have HT := Lib.hid htab
  have HP := Lib.hid hpow
  have HIN := Lib.hid hm.go.few
  have HA0 := Lib.hid hm.1
  clear htab hpow hm
  unfold cellsM
  go_enter Tryd.func4, Tryd.ntmps4
  go_wp2_with fail
  have hi : MachAt (w.alloc (.cells #[.int .i64 m0.op, .int .i64 m0.d, .int .i64 m0.e, .int .i64 m0.a, .int .i64 m0.b, .int .i64 m0.c, .int .i32 m0.imm, .slice a0 m0.args.length c0] 24)) w.heap.size m0 a0 c0 := alloc_at _ _
  have hb := below_alloc (Below.refl w.heap.size w) (.cells #[.int .i64 m0.op, .int .i64 m0.d, .int .i64 m0.e, .int .i64 m0.a, .int .i64 m0.b, .int .i64 m0.c, .int .i32 m0.imm, .slice a0 m0.args.length c0] 24)
  generalize w.alloc (.cells #[.int .i64 m0.op, .int .i64 m0.d, .int .i64 m0.e, .int .i64 m0.a, .int .i64 m0.b, .int .i64 m0.c, .int .i32 m0.imm, .slice a0 m0.args.length c0] 24) = V1 at hi hb ⊢
  refine (shown_any _ (tabIs_below HT.out hb) (tabIs_below HP.out hb)).mono ?_
  rintro e w1 ⟨rfl, hb1⟩
  have hi1 := hi.below hb1
  have hB1 := below_step hb hb1
  obtain ⟨d0, d1, d2, d3, d4, d5, d6, d7, z⟩ := hi1.cells
  have HI1 := Lib.hid hi1
  have HB1 := Lib.hid hB1
  clear hi hb hb1 hi1 hB1
  go_wp2_with fail
  have hf := few_any m0 a0 c0 w1 (HA0.out.below HB1.out)
  unfold cellsM at hf
  refine hf.mono ?_
  rintro e w2 ⟨a, c, rfl, hb2, har, hfr⟩
  have hi2 := HI1.out.below hb2
  have hB2 := below_step HB1.out hb2
  have hlt := HI1.out.lt
  obtain ⟨d0, d1, d2, d3, d4, d5, d6, d7, z⟩ := hi2.cells
  generalize fewM m0 = m at HIN har hfr ⊢
  have hg8 := set8_grown w2 w.heap.size m a c
  have h8 := set8_at hi2 m a c
  have ha8 := har.grown hg8 (fun ad ha => by have := hfr ad ha; omega)
  have hB8 := grown_low hB2 hg8 (Nat.le_refl _)
  unfold set8 at h8 ha8 hB8
  have H8 := Lib.hid h8
  have HA8 := Lib.hid ha8
  have HB8 := Lib.hid hB8
  unfold cellsM
  clear hf hb2 har hfr hi2 hB2 hg8 h8 ha8 hB8 HA0 HI1 HB1
  go_wp2_with fail
  generalize ((((((((w2.setCell ⟨w.heap.size, 0, none⟩ (.int .i64 m.op)).setCell ⟨w.heap.size, 1, none⟩ (.int .i64 m.d)).setCell ⟨w.heap.size, 2, none⟩ (.int .i64 m.e)).setCell ⟨w.heap.size, 3, none⟩ (.int .i64 m.a)).setCell ⟨w.heap.size, 4, none⟩ (.int .i64 m.b)).setCell ⟨w.heap.size, 5, none⟩ (.int .i64 m.c)).setCell ⟨w.heap.size, 6, none⟩ (.int .i32 m.imm)).setCell ⟨w.heap.size, 7, none⟩ (.slice a m.args.length c)) = W8 at H8 HA8 HB8 ⊢
  have hput := put_any m HIN.out a c W8 HA8.out (tabIs_below HT.out HB8.out)
  unfold cellsM at hput
  refine hput.mono ?_
  rintro e w3 ⟨rfl, hb3⟩
  have hi3 := H8.out.below hb3
  have hB3 := below_step HB8.out hb3
  have ha3 := HA8.out.below hb3
  obtain ⟨d0, d1, d2, d3, d4, d5, d6, d7, z⟩ := hi3.cells
  have HI3 := Lib.hid hi3
  have HB3 := Lib.hid hB3
  have HA3 := Lib.hid ha3
  clear hput hb3 hi3 hB3 ha3 H8 HA8 HB8
  clear d0 d1 d2 d3 d4 d5 d6 d7 z
  obtain ⟨d0, d1, d2, d3, d4, d5, d6, d7, z⟩ := HI3.out.cells
  go_wp2_with fail
  have hput := rput_any m HIN.out a c w3 HA3.out
  unfold cellsM at hput
  refine hput.mono ?_
  rintro e w4 ⟨rfl, hb4⟩
  have HI4 := Lib.hid (HI3.out.below hb4)
  have HB4 := Lib.hid (below_step HB3.out hb4)
  have HA4 := Lib.hid (HA3.out.below hb4)
  clear hput hb4 HI3 HB3 HA3 d0 d1 d2 d3 d4 d5 d6 d7 z
  go_upto_region 5 with (fail)
  have hfew := HIN.out.few
  have psz : ∀ W, Below w4.heap.size w4 W → Calls Tryd.prog 19 #[.agg #[.int .i64 m.op, .int .i64 m.d, .int .i64 m.e, .int .i64 m.a, .int .i64 m.b, .int .i64 m.c, .int .i32 m.imm, .slice a m.args.length c]] W fun e w' => e = .returned (.int .i64 (sizeM m)) ∧ Below W.heap.size W w' := fun W hW => size_any m a c W (HA4.out.below hW) (tabIs_below HT.out (below_step HB4.out hW))
  have prs : ∀ W, Below w4.heap.size w4 W → Calls Tryd.prog 20 #[.agg #[.int .i64 m.op, .int .i64 m.d, .int .i64 m.e, .int .i64 m.a, .int .i64 m.b, .int .i64 m.c, .int .i32 m.imm, .slice a m.args.length c]] W fun e w' => e = .returned (.int .i64 (sizeM m)) ∧ Below W.heap.size W w' := fun W hW => rsize_any m hfew a c W (HA4.out.below hW)
  have pnm : ∀ W, Below w4.heap.size w4 W → Calls Tryd.prog 17 #[.int .i64 m.op] W fun e w' => e = .returned (.string (bs (nameOf m.op))) ∧ Below W.heap.size W w' := fun W hW => name_any m.op W (tabIs_below HT.out (below_step HB4.out hW))
  have prn : ∀ W, Calls Tryd.prog 21 #[.int .i64 m.op] W fun e w' => e = .returned (.string (bs (nameOf m.op))) ∧ Below W.heap.size W w' := fun W => rname_any m.op W
  have ptx : ∀ W, Below w4.heap.size w4 W → Calls Tryd.prog 22 #[.agg #[.int .i64 m.op, .int .i64 m.d, .int .i64 m.e, .int .i64 m.a, .int .i64 m.b, .int .i64 m.c, .int .i32 m.imm, .slice a m.args.length c]] W fun e w' => e = .returned (.string (bs (textM m))) ∧ Below W.heap.size W w' := fun W hW => text_any m HIN.out a c W (HA4.out.below hW) (tabIs_below HT.out (below_step HB4.out hW)) (tabIs_below HP.out (below_step HB4.out hW))
  have prt : ∀ W, Below w4.heap.size w4 W → Calls Tryd.prog 23 #[.agg #[.int .i64 m.op, .int .i64 m.d, .int .i64 m.e, .int .i64 m.a, .int .i64 m.b, .int .i64 m.c, .int .i32 m.imm, .slice a m.args.length c]] W fun e w' => e = .returned (.string (bs (textM m))) ∧ Below W.heap.size W w' := fun W hW => rtext_any m HIN.out a c W (HA4.out.below hW)
  have PSZ := Lib.hid psz
  have PRS := Lib.hid prs
  have PNM := Lib.hid pnm
  have PRN := Lib.hid prn
  have PTX := Lib.hid ptx
  have PRT := Lib.hid prt
  clear psz prs pnm prn ptx prt hfew
  generalize sizeM m = Z at PSZ PRS
  generalize nameOf m.op = NM at PNM PRN
  generalize textM m = TX at PTX PRT
  generalize putS m = PS
  generalize putE m = PE
  have e2 : (PE == PE) = true := beq_self_eq_true _
  have e3 : (Z == Z) = true := beq_self_eq_true _
  have HI := HI4
  have HK := Lib.hid (Below.refl w4.heap.size w4)
  obtain ⟨d0, d1, d2, d3, d4, d5, d6, d7, z⟩ := HI.out.cells
  go_region_held3 (fun w' => w'.cell? ⟨w.heap.size, 0, none⟩ = some (.int .i64 m.op) ∧ w'.cell? ⟨w.heap.size, 1, none⟩ = some (.int .i64 m.d) ∧ w'.cell? ⟨w.heap.size, 2, none⟩ = some (.int .i64 m.e) ∧ w'.cell? ⟨w.heap.size, 3, none⟩ = some (.int .i64 m.a) ∧ w'.cell? ⟨w.heap.size, 4, none⟩ = some (.int .i64 m.b) ∧ w'.cell? ⟨w.heap.size, 5, none⟩ = some (.int .i64 m.c) ∧ w'.cell? ⟨w.heap.size, 6, none⟩ = some (.int .i32 m.imm) ∧ w'.cell? ⟨w.heap.size, 7, none⟩ = some (.slice a m.args.length c)) (go_keep)
    (first
    | (go_at_call 19; refine (PSZ.out _ (by first | exact HK.out | exact below_drewR HK.out)).mono ?_; rintro e wq ⟨rfl, hq⟩; (have HI := Lib.hid (HI.out.below (by first | exact below_drewN_left hq | exact below_drew_left hq | exact hq))); (have HK := Lib.hid (below_step HK.out (by first | exact below_drewN_left hq | exact below_drew_left hq | exact hq))); (obtain ⟨d0, d1, d2, d3, d4, d5, d6, d7, z⟩ := HI.out.cells); clear hq)
    | (go_at_call 20; refine (PRS.out _ (by first | exact HK.out | exact below_drewR HK.out)).mono ?_; rintro e wq ⟨rfl, hq⟩; (have HI := Lib.hid (HI.out.below (by first | exact below_drewN_left hq | exact below_drew_left hq | exact hq))); (have HK := Lib.hid (below_step HK.out (by first | exact below_drewN_left hq | exact below_drew_left hq | exact hq))); (obtain ⟨d0, d1, d2, d3, d4, d5, d6, d7, z⟩ := HI.out.cells); clear hq)
    | (go_at_call 17; refine (PNM.out _ (by first | exact HK.out | exact below_drewR HK.out)).mono ?_; rintro e wq ⟨rfl, hq⟩; (have HI := Lib.hid (HI.out.below (by first | exact below_drewN_left hq | exact below_drew_left hq | exact hq))); (have HK := Lib.hid (below_step HK.out (by first | exact below_drewN_left hq | exact below_drew_left hq | exact hq))); (obtain ⟨d0, d1, d2, d3, d4, d5, d6, d7, z⟩ := HI.out.cells); clear hq)
    | (go_at_call 21; refine (PRN.out _).mono ?_; rintro e wq ⟨rfl, hq⟩; (have HI := Lib.hid (HI.out.below (by first | exact below_drewN_left hq | exact below_drew_left hq | exact hq))); (have HK := Lib.hid (below_step HK.out (by first | exact below_drewN_left hq | exact below_drew_left hq | exact hq))); (obtain ⟨d0, d1, d2, d3, d4, d5, d6, d7, z⟩ := HI.out.cells); clear hq)
    | (go_at_call 22; refine (PTX.out _ (by first | exact HK.out | exact below_drewR HK.out)).mono ?_; rintro e wq ⟨rfl, hq⟩; (have HI := Lib.hid (HI.out.below (by first | exact below_drewN_left hq | exact below_drew_left hq | exact hq))); (have HK := Lib.hid (below_step HK.out (by first | exact below_drewN_left hq | exact below_drew_left hq | exact hq))); (obtain ⟨d0, d1, d2, d3, d4, d5, d6, d7, z⟩ := HI.out.cells); clear hq)
    | (go_at_call 23; refine (PRT.out _ (by first | exact HK.out | exact below_drewR HK.out)).mono ?_; rintro e wq ⟨rfl, hq⟩; (have HI := Lib.hid (HI.out.below (by first | exact below_drewN_left hq | exact below_drew_left hq | exact hq))); (have HK := Lib.hid (below_step HK.out (by first | exact below_drewN_left hq | exact below_drew_left hq | exact hq))); (obtain ⟨d0, d1, d2, d3, d4, d5, d6, d7, z⟩ := HI.out.cells); clear hq))
  all_goals
    go_wp2_with fail
    go_ret
    exact ⟨rfl, HB4.out.trans (HK.out.mono HB4.out.size)⟩
end Go.Proofs.YtmoplcchiadlpaaDoor.Jc
end
