/- jacquardlaw18.CodeBack, walked: it returns true. -/
import Derived.Test.YtmoplcchiadlpaaDoorJcShown
import Derived.Test.YtmoplcchiadlpaaDoorJcPlain3
import Derived.Test.YtmoplcchiadlpaaDoorJcRefP
import Derived.Test.YtmoplcchiadlpaaDoorJcMach
import Derived.Deep.RegionHeld3
set_option linter.unusedVariables false
set_option linter.unusedSimpArgs false
namespace Go.Proofs.YtmoplcchiadlpaaDoor.Jc
open Go Go.RowKit Go.ChangeMaps Go.Proofs.YtmoplcchiadlpaaDoorW.PrintWords

set_option maxRecDepth 100000 in
set_option maxHeartbeats 4000000 in
theorem back_walk (w : World) (m0 : M) (a0 : Option Addr) (c0 : Nat) (bh : ByteArray) (hm : CameIn w m0 a0 c0) (hbh : bh.size ≤ 9223372036854775807) (htab : Lib.TabIs Tryd.prog w "strings.asciiSpace" .u8 Lib.asciiSpaceTab) (hpow : Lib.TabIs Tryd.prog w "internal/strconv.uint64pow10" .u64 Lib.pow10Tab) :
    Calls Tryd.prog 6 #[.agg (cellsM m0 a0 c0), .string bh] w fun e w' => e = .returned (.bool true) ∧ Below w.heap.size w w' := by
  have HT := Lib.hid htab
  have HP := Lib.hid hpow
  have HIN := Lib.hid hm.go.few
  have HA0 := Lib.hid hm.1
  clear htab hpow hm
  unfold cellsM
  go_enter Tryd.func6, Tryd.ntmps6
  go_wp2_with fail
  have hi : MachAt (w.alloc (.cells #[.int .i64 m0.op, .int .i64 m0.d, .int .i64 m0.e, .int .i64 m0.a, .int .i64 m0.b, .int .i64 m0.c, .int .i32 m0.imm, .slice a0 m0.args.length c0] 24)) w.heap.size m0 a0 c0 := alloc_at _ _
  have hb := below_alloc (Below.refl w.heap.size w) (.cells #[.int .i64 m0.op, .int .i64 m0.d, .int .i64 m0.e, .int .i64 m0.a, .int .i64 m0.b, .int .i64 m0.c, .int .i32 m0.imm, .slice a0 m0.args.length c0] 24)
  generalize w.alloc (.cells #[.int .i64 m0.op, .int .i64 m0.d, .int .i64 m0.e, .int .i64 m0.a, .int .i64 m0.b, .int .i64 m0.c, .int .i32 m0.imm, .slice a0 m0.args.length c0] 24) = V1 at hi hb ⊢
  refine (shown_any _ (tabIs_below HT.out hb) (tabIs_below HP.out hb)).mono ?_
  rintro e w1 ⟨rfl, hb1⟩
  have hi1 := hi.below hb1
  have hB1 := below_step hb hb1
  obtain ⟨d0, d1, d2, d3, d4, d5, d6, d7, z⟩ := hi1.cells
  have HI1 := Lib.hid hi1
  have HB1 := Lib.hid hB1
  clear hi hb hb1 hi1 hB1
  go_wp2_with fail
  have hf := few_any m0 a0 c0 w1 (HA0.out.below HB1.out)
  unfold cellsM at hf
  refine hf.mono ?_
  rintro e w2 ⟨a, c, rfl, hb2, har, hfr⟩
  clear d0 d1 d2 d3 d4 d5 d6 d7 z
  have hi2 := HI1.out.below hb2
  have hB2 := below_step HB1.out hb2
  have hlt := HI1.out.lt
  obtain ⟨d0, d1, d2, d3, d4, d5, d6, d7, z⟩ := hi2.cells
  have h70 : (fewM m0).args.length ≤ 70 := by show (m0.args.take 70).length ≤ 70; rw [List.length_take]; omega
  generalize fewM m0 = m at HIN har hfr h70 ⊢
  have hg8 := set8_grown w2 w.heap.size m a c
  have h8 := set8_at hi2 m a c
  have ha8 := har.grown hg8 (fun ad ha => by have := hfr ad ha; omega)
  have hB8 := grown_low hB2 hg8 (Nat.le_refl _)
  unfold set8 at h8 ha8 hB8
  have H8 := Lib.hid h8
  have HA8 := Lib.hid ha8
  have HB8 := Lib.hid hB8
  unfold cellsM
  clear hf hb2 har hfr hi2 hB2 hg8 h8 ha8 hB8 HA0 HI1 HB1 hlt
  go_wp2_with fail
  generalize ((((((((w2.setCell ⟨w.heap.size, 0, none⟩ (.int .i64 m.op)).setCell ⟨w.heap.size, 1, none⟩ (.int .i64 m.d)).setCell ⟨w.heap.size, 2, none⟩ (.int .i64 m.e)).setCell ⟨w.heap.size, 3, none⟩ (.int .i64 m.a)).setCell ⟨w.heap.size, 4, none⟩ (.int .i64 m.b)).setCell ⟨w.heap.size, 5, none⟩ (.int .i64 m.c)).setCell ⟨w.heap.size, 6, none⟩ (.int .i32 m.imm)).setCell ⟨w.heap.size, 7, none⟩ (.slice a m.args.length c)) = W8 at H8 HA8 HB8 ⊢
  clear d0 d1 d2 d3 d4 d5 d6 d7 z
  have hput := put_any m HIN.out a c W8 HA8.out (tabIs_below HT.out HB8.out)
  unfold cellsM at hput
  refine hput.mono ?_
  rintro e w3 ⟨rfl, hb3⟩
  have hi3 := H8.out.below hb3
  have hB3 := below_step HB8.out hb3
  have ha3 := HA8.out.below hb3
  have HI3 := Lib.hid hi3
  have HB3 := Lib.hid hB3
  have HA3 := Lib.hid ha3
  clear hput hb3 hi3 hB3 ha3 H8 HA8 HB8
  by_cases hE : ¬ putE m = 0
  · have hb : (putE m != 0) = true := by simpa using hE
    have hb2 : (putE m == 0) = false := by simpa using hE
    rw [putE_err hE]
    clear hE
    go_wp2_with fail
    go_ret
    exact ⟨by simp, HB3.out⟩
  have hE : putE m = 0 := Classical.not_not.1 hE
  obtain ⟨l, rfl⟩ := bs_of bh
  have hsz := bs_size l
  have hszS := bs_size (putS m)
  rw [hsz] at hbh
  have hSs := putS_short hE
  have hSz := put_size (put_of hE)
  obtain ⟨gI, gN, gE⟩ := get_back HIN.out.imm hE (l.take 100)
  have hgk := get_any (putS m ++ l.take 100) (by rw [List.length_append, List.length_take]; omega)
  unfold GotBack at hgk
  rw [gI, gN, gE] at hgk
  rw [hE]
  have HGK := Lib.hid hgk
  clear gI gN gE hgk hE
  have hsize : ∀ W, Below w3.heap.size w3 W → Calls Tryd.prog 19 #[.agg #[.int .i64 m.op, .int .i64 m.d, .int .i64 m.e, .int .i64 m.a, .int .i64 m.b, .int .i64 m.c, .int .i32 m.imm, .slice a m.args.length c]] W fun e w' => e = .returned (.int .i64 ((putS m).length : Int)) ∧ Below W.heap.size W w' := fun W hW => by
    have h := size_any m a c W (HA3.out.below hW) (tabIs_below HT.out (below_step HB3.out hW))
    rw [← hSz] at h
    exact h
  have HSZ := Lib.hid hsize
  clear hSz hsize
  generalize hSS : putS m = S at hszS hSs HGK HSZ ⊢
  clear hSS
  have hsum : ¬ (9223372036854775807 < S.length + (l.take 100).length) := by rw [List.length_take]; omega
  have hcm : (bs l).extract 0 (min (l.length : Int) 100).toNat = bs (l.take 100) := cut_min l 100
  have hap := bs_append S (l.take 100)
  go_wp2_with fail
  have hpl : ∀ W, ArgsIn W m a c → Calls Tryd.prog 27 #[.agg #[.int .i64 m.op, .int .i64 m.d, .int .i64 m.e, .int .i64 m.a, .int .i64 m.b, .int .i64 m.c, .int .i32 m.imm, .slice a m.args.length c]] W (HandsM (plainM m) W) := fun W hW => plain_any m a c W hW (by omega)
  have hsm : ∀ W A B ca cb, ArgsIn W (plainM m) A ca → ArgsIn W (plainM m) B cb → Calls Tryd.prog 26 #[.agg #[.int .i64 (plainM m).op, .int .i64 (plainM m).d, .int .i64 (plainM m).e, .int .i64 (plainM m).a, .int .i64 (plainM m).b, .int .i64 (plainM m).c, .int .i32 (plainM m).imm, .slice A (plainM m).args.length ca], .agg #[.int .i64 (plainM m).op, .int .i64 (plainM m).d, .int .i64 (plainM m).e, .int .i64 (plainM m).a, .int .i64 (plainM m).b, .int .i64 (plainM m).c, .int .i32 (plainM m).imm, .slice B (plainM m).args.length cb]] W fun e w' => e = .returned (.bool true) ∧ Below W.heap.size W w' := fun W A B ca cb h1 h2 => by
    have h := same_any (plainM m) (plainM m) A B ca cb W h1 h2 (by unfold plainM; dsimp only; split <;> (try simp) <;> omega)
    rw [same_refl] at h
    exact h
  generalize plainM m = P at hpl hsm HGK
  refine (HGK.out _ (tabIs_below HT.out HB3.out)).mono ?_
  rintro e w4 ⟨ag, cg, rfl, hb4, harg, hfrg⟩
  have hg5 : MachAt (w4.alloc (.cells #[.int .i64 P.op, .int .i64 P.d, .int .i64 P.e, .int .i64 P.a, .int .i64 P.b, .int .i64 P.c, .int .i32 P.imm, .slice ag P.args.length cg] 24)) w4.heap.size P ag cg := alloc_at _ _
  have hi5 : MachAt (w4.alloc (.cells #[.int .i64 P.op, .int .i64 P.d, .int .i64 P.e, .int .i64 P.a, .int .i64 P.b, .int .i64 P.c, .int .i32 P.imm, .slice ag P.args.length cg] 24)) w.heap.size m a c := alloc_old (HI3.out.below hb4)
  have hb5 := below_alloc hb4 (.cells #[.int .i64 P.op, .int .i64 P.d, .int .i64 P.e, .int .i64 P.a, .int .i64 P.b, .int .i64 P.c, .int .i32 P.imm, .slice ag P.args.length cg] 24)
  have hag5 := harg.below (below_alloc (Below.refl w4.heap.size w4) (.cells #[.int .i64 P.op, .int .i64 P.d, .int .i64 P.e, .int .i64 P.a, .int .i64 P.b, .int .i64 P.c, .int .i32 P.imm, .slice ag P.args.length cg] 24))
  unfold cellsM
  have HPL := Lib.hid hpl
  have HSM := Lib.hid hsm
  clear hb4 harg hfrg hpl hsm HGK hsum hcm hap
  go_wp2_with fail
  generalize w4.alloc (.cells #[.int .i64 P.op, .int .i64 P.d, .int .i64 P.e, .int .i64 P.a, .int .i64 P.b, .int .i64 P.c, .int .i32 P.imm, .slice ag P.args.length cg] 24) = V5 at hg5 hi5 hb5 hag5 ⊢
  have HK := Lib.hid hb5
  have HI := Lib.hid hi5
  have HG := Lib.hid hg5
  have HAG := Lib.hid hag5
  obtain ⟨d0, d1, d2, d3, d4, d5, d6, d7, dz⟩ := hi5.cells
  obtain ⟨g0, g1, g2, g3, g4, g5, g6, g7, gz⟩ := hg5.cells
  clear hb5 hi5 hg5 hag5
  generalize hBB : bs S = BS
  have hBN : ((S.length : Int) == (BS.size : Int)) = true := by rw [← hBB, hszS]; simp
  clear hBB hszS hsz hSs
  generalize (S.length : Int) = N at HSZ hBN ⊢
  go_region_held3 (fun w' => w'.cell? ⟨w.heap.size, 0, none⟩ = some (.int .i64 m.op) ∧ w'.cell? ⟨w.heap.size, 1, none⟩ = some (.int .i64 m.d) ∧ w'.cell? ⟨w.heap.size, 2, none⟩ = some (.int .i64 m.e) ∧ w'.cell? ⟨w.heap.size, 3, none⟩ = some (.int .i64 m.a) ∧ w'.cell? ⟨w.heap.size, 4, none⟩ = some (.int .i64 m.b) ∧ w'.cell? ⟨w.heap.size, 5, none⟩ = some (.int .i64 m.c) ∧ w'.cell? ⟨w.heap.size, 6, none⟩ = some (.int .i32 m.imm) ∧ w'.cell? ⟨w.heap.size, 7, none⟩ = some (.slice a m.args.length c) ∧ w'.cell? ⟨w4.heap.size, 0, none⟩ = some (.int .i64 P.op) ∧ w'.cell? ⟨w4.heap.size, 1, none⟩ = some (.int .i64 P.d) ∧ w'.cell? ⟨w4.heap.size, 2, none⟩ = some (.int .i64 P.e) ∧ w'.cell? ⟨w4.heap.size, 3, none⟩ = some (.int .i64 P.a) ∧ w'.cell? ⟨w4.heap.size, 4, none⟩ = some (.int .i64 P.b) ∧ w'.cell? ⟨w4.heap.size, 5, none⟩ = some (.int .i64 P.c) ∧ w'.cell? ⟨w4.heap.size, 6, none⟩ = some (.int .i32 P.imm) ∧ w'.cell? ⟨w4.heap.size, 7, none⟩ = some (.slice ag P.args.length cg)) (go_keep)
    (first
    | (go_at_call 19; refine (HSZ.out _ (by first | exact HK.out | exact below_drewR HK.out)).mono ?_; rintro e wq ⟨rfl, hq⟩; (have HK := Lib.hid (below_step HK.out (by first | exact below_drewN_left hq | exact below_drew_left hq | exact hq))); (have HI := Lib.hid (HI.out.below (by first | exact below_drewN_left hq | exact below_drew_left hq | exact hq))); (have HG := Lib.hid (HG.out.below (by first | exact below_drewN_left hq | exact below_drew_left hq | exact hq))); (have HAG := Lib.hid (HAG.out.below (by first | exact below_drewN_left hq | exact below_drew_left hq | exact hq))); (obtain ⟨d0, d1, d2, d3, d4, d5, d6, d7, dz⟩ := HI.out.cells); (obtain ⟨g0, g1, g2, g3, g4, g5, g6, g7, gz⟩ := HG.out.cells); clear hq)
    | (go_at_call 27; refine (HPL.out _ (by first | exact HA3.out.below HK.out | exact HA3.out.below (below_drewR HK.out))).mono ?_; rintro e wq ⟨ap, cp, rfl, hq, harp, hfrp⟩; (have HK := Lib.hid (below_step HK.out (by first | exact below_drewN_left hq | exact below_drew_left hq | exact hq))); (have HI := Lib.hid (HI.out.below (by first | exact below_drewN_left hq | exact below_drew_left hq | exact hq))); (have HG := Lib.hid (HG.out.below (by first | exact below_drewN_left hq | exact below_drew_left hq | exact hq))); (have HAG := Lib.hid (HAG.out.below (by first | exact below_drewN_left hq | exact below_drew_left hq | exact hq))); (obtain ⟨d0, d1, d2, d3, d4, d5, d6, d7, dz⟩ := HI.out.cells); (obtain ⟨g0, g1, g2, g3, g4, g5, g6, g7, gz⟩ := HG.out.cells); (have HAP := Lib.hid harp); clear hq harp hfrp; unfold cellsM)
    | (go_at_call 26; refine (HSM.out _ _ _ _ _ (by first | exact HAG.out | exact (HAG.out.below (below_drewR (Below.refl _ _)))) (by first | exact HAP.out | exact (HAP.out.below (below_drewR (Below.refl _ _))))).mono ?_; rintro e wq ⟨rfl, hq⟩; (have HK := Lib.hid (below_step HK.out (by first | exact below_drewN_left hq | exact below_drew_left hq | exact hq))); (have HI := Lib.hid (HI.out.below (by first | exact below_drewN_left hq | exact below_drew_left hq | exact hq))); (have HG := Lib.hid (HG.out.below (by first | exact below_drewN_left hq | exact below_drew_left hq | exact hq))); (have HAG := Lib.hid (HAG.out.below (by first | exact below_drewN_left hq | exact below_drew_left hq | exact hq))); (obtain ⟨d0, d1, d2, d3, d4, d5, d6, d7, dz⟩ := HI.out.cells); (obtain ⟨g0, g1, g2, g3, g4, g5, g6, g7, gz⟩ := HG.out.cells); clear hq))
  all_goals
    go_wp2_with fail
    go_ret

    exact ⟨rfl, HB3.out.trans (HK.out.mono HB3.out.size)⟩
end Go.Proofs.YtmoplcchiadlpaaDoor.Jc
