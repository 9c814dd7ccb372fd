/- jacquardlaw18.CodeTexts, walked: it returns true. -/
import Derived.Test.YtmoplcchiadlpaaDoorKMJcRefP
import Derived.Test.YtmoplcchiadlpaaDoorKMJcGet
import Derived.Test.YtmoplcchiadlpaaDoorKJcPlain4
import Derived.Deep.DeepCutAuto
import Derived.Deep.CutBlock
import Derived.Deep.QuietTactic
import Derived.BigQuiet
import Derived.Deep.RegionHeld3
set_option linter.unusedVariables false
set_option linter.unusedSimpArgs false
namespace Go.Proofs.YtmoplcchiadlpaaDoor.Jc
open Go Go.RowKit Go.ChangeMaps Go.Proofs.YtmoplcchiadlpaaDoorW.PrintWords

set_option maxRecDepth 100000 in
set_option maxHeartbeats 8000000 in
theorem texts_walk (w : World) (m0 : M) (a0 : Option Addr) (c0 : Nat) (n0 : M) (p0 : Option Addr) (q0 : Nat) (hm : CameIn w m0 a0 c0) (hn : CameIn w n0 p0 q0) (htab : Lib.TabIs Tryd.prog w "strings.asciiSpace" .u8 Lib.asciiSpaceTab) (hpow : Lib.TabIs Tryd.prog w "internal/strconv.uint64pow10" .u64 Lib.pow10Tab) :
    Calls Tryd.prog 10 #[.agg (cellsM m0 a0 c0), .agg (cellsM n0 p0 q0)] w fun e w' => e = .returned (.bool true) ∧ Below w.heap.size w w' := by
  have HT := Lib.hid htab
  have HP := Lib.hid hpow
  have HIN := Lib.hid hm.go.few
  have HKN := Lib.hid hn.go.few
  have HA0 := Lib.hid hm.1
  have HP0 := Lib.hid hn.1
  clear htab hpow hm hn
  unfold cellsM
  go_enter Tryd.func10, Tryd.ntmps10
  go_wp2_with fail
  have hz := alloc_size w (.cells #[.int .i64 m0.op, .int .i64 m0.d, .int .i64 m0.e, .int .i64 m0.a, .int .i64 m0.b, .int .i64 m0.c, .int .i32 m0.imm, .slice a0 m0.args.length c0] 24)
  have hi : MachAt (w.alloc (.cells #[.int .i64 m0.op, .int .i64 m0.d, .int .i64 m0.e, .int .i64 m0.a, .int .i64 m0.b, .int .i64 m0.c, .int .i32 m0.imm, .slice a0 m0.args.length c0] 24)) w.heap.size m0 a0 c0 := alloc_at _ _
  have hb := below_alloc (Below.refl w.heap.size w) (.cells #[.int .i64 m0.op, .int .i64 m0.d, .int .i64 m0.e, .int .i64 m0.a, .int .i64 m0.b, .int .i64 m0.c, .int .i32 m0.imm, .slice a0 m0.args.length c0] 24)
  generalize w.alloc (.cells #[.int .i64 m0.op, .int .i64 m0.d, .int .i64 m0.e, .int .i64 m0.a, .int .i64 m0.b, .int .i64 m0.c, .int .i32 m0.imm, .slice a0 m0.args.length c0] 24) = V0 at hz hi hb ⊢
  have hk : MachAt (V0.alloc (.cells #[.int .i64 n0.op, .int .i64 n0.d, .int .i64 n0.e, .int .i64 n0.a, .int .i64 n0.b, .int .i64 n0.c, .int .i32 n0.imm, .slice p0 n0.args.length q0] 24)) V0.heap.size n0 p0 q0 := alloc_at _ _
  have hi : MachAt (V0.alloc (.cells #[.int .i64 n0.op, .int .i64 n0.d, .int .i64 n0.e, .int .i64 n0.a, .int .i64 n0.b, .int .i64 n0.c, .int .i32 n0.imm, .slice p0 n0.args.length q0] 24)) w.heap.size m0 a0 c0 := alloc_old hi
  have hb := below_alloc hb (.cells #[.int .i64 n0.op, .int .i64 n0.d, .int .i64 n0.e, .int .i64 n0.a, .int .i64 n0.b, .int .i64 n0.c, .int .i32 n0.imm, .slice p0 n0.args.length q0] 24)
  generalize V0.alloc (.cells #[.int .i64 n0.op, .int .i64 n0.d, .int .i64 n0.e, .int .i64 n0.a, .int .i64 n0.b, .int .i64 n0.c, .int .i32 n0.imm, .slice p0 n0.args.length q0] 24) = V1 at hk hi hb ⊢
  rw [hz] at hk
  generalize hBk : w.heap.size + 1 = bk at hk hz ⊢
  have hne : w.heap.size ≠ bk := by omega
  have hge : w.heap.size ≤ bk := by omega
  clear hz hBk
  refine (shown_any _ (tabIs_below HT.out hb) (tabIs_below HP.out hb)).mono ?_
  rintro e w1 ⟨rfl, hb1⟩
  have hi1 := hi.below hb1
  have hk1 := hk.below hb1
  have hB1 := below_step hb hb1
  obtain ⟨d0, d1, d2, d3, d4, d5, d6, d7, z⟩ := hi1.cells
  have HI1 := Lib.hid hi1
  have HK1 := Lib.hid hk1
  have HB1 := Lib.hid hB1
  clear hi hk hb hb1 hi1 hk1 hB1
  go_wp2_with fail
  have hf := few_any m0 a0 c0 w1 (HA0.out.below HB1.out)
  unfold cellsM at hf
  refine hf.mono ?_
  rintro e w2 ⟨a, c, rfl, hb2, har, hfr⟩
  have hi2 := HI1.out.below hb2
  have hk2 := HK1.out.below hb2
  have hB2 := below_step HB1.out hb2
  have hlt := HI1.out.lt
  have hltk := HK1.out.lt
  have hlt2 := hk2.lt
  have hfk : ∀ ad, a = some ad → bk < ad.block := fun ad ha => by have := hfr ad ha; omega
  obtain ⟨d0, d1, d2, d3, d4, d5, d6, d7, z⟩ := hi2.cells
  have hms : (fewM m0).args.length ≤ 1000 := by unfold fewM; rw [List.length_take]; omega
  generalize fewM m0 = m at HIN har hfr hms ⊢
  have hg8 := set8_grown w2 w.heap.size m a c
  have h8 := set8_at hi2 m a c
  have hk8 := hk2.grown hg8 (Ne.symm hne)
  have ha8 := har.grown hg8 (fun ad ha => by have := hfr ad ha; omega)
  have hB8 := grown_low hB2 hg8 (Nat.le_refl _)
  have hs8 : (set8 w2 w.heap.size m a c).heap.size = w2.heap.size := by unfold set8; simp
  unfold set8 at h8 ha8 hB8 hk8 hs8
  have H8 := Lib.hid h8
  have HK8 := Lib.hid hk8
  have HA8 := Lib.hid ha8
  have HB8 := Lib.hid hB8
  unfold cellsM
  clear hf hb2 har hi2 hk2 hB2 hg8 h8 hk8 ha8 hB8 HA0 HI1 HB1 HK1
  go_upto_region 3 with (fail)
  generalize ((((((((w2.setCell ⟨w.heap.size, 0, none⟩ (.int .i64 m.op)).setCell ⟨w.heap.size, 1, none⟩ (.int .i64 m.d)).setCell ⟨w.heap.size, 2, none⟩ (.int .i64 m.e)).setCell ⟨w.heap.size, 3, none⟩ (.int .i64 m.a)).setCell ⟨w.heap.size, 4, none⟩ (.int .i64 m.b)).setCell ⟨w.heap.size, 5, none⟩ (.int .i64 m.c)).setCell ⟨w.heap.size, 6, none⟩ (.int .i32 m.imm)).setCell ⟨w.heap.size, 7, none⟩ (.slice a m.args.length c)) = W8 at H8 HA8 HB8 HK8 hs8 ⊢
  clear d0 d1 d2 d3 d4 d5 d6 d7 z
  obtain ⟨d0, d1, d2, d3, d4, d5, d6, d7, z⟩ := HK8.out.cells
  go_wp2_with fail
  have hf := few_any n0 p0 q0 W8 (HP0.out.below HB8.out)
  unfold cellsM at hf
  refine hf.mono ?_
  rintro e w4 ⟨p, q, rfl, hb4, har4, hfr4⟩
  have hi4 := H8.out.below hb4
  have hk4 := HK8.out.below hb4
  have ha4 := HA8.out.below hb4
  have hB4 := below_step HB8.out hb4
  have hltk4 := HK8.out.lt
  obtain ⟨d0, d1, d2, d3, d4, d5, d6, d7, z⟩ := hk4.cells
  have hks : (fewM n0).args.length ≤ 1000 := by unfold fewM; rw [List.length_take]; omega
  generalize fewM n0 = k at HKN har4 hfr4 hks ⊢
  have hg8 := set8_grown w4 bk k p q
  have hk8 := set8_at hk4 k p q
  have hi8 := hi4.grown hg8 hne
  have hp8 := har4.grown hg8 (fun ad ha => by have := hfr4 ad ha; omega)
  have ha8 := ha4.grown hg8 (fun ad ha => by have := hfk ad ha; omega)
  have hB8 := grown_low hB4 hg8 hge
  unfold set8 at hk8 hi8 hp8 ha8 hB8
  clear H8 HA8 HB8 HK8
  have H8 := Lib.hid hi8
  have HK8 := Lib.hid hk8
  have HA8 := Lib.hid ha8
  have HP8 := Lib.hid hp8
  have HB8 := Lib.hid hB8
  unfold cellsM
  clear hf hb4 har4 hfr4 hi4 hk4 ha4 hB4 hg8 hk8 hi8 hp8 ha8 hB8 HP0
  go_upto_region 4 with (fail)
  generalize ((((((((w4.setCell ⟨bk, 0, none⟩ (.int .i64 k.op)).setCell ⟨bk, 1, none⟩ (.int .i64 k.d)).setCell ⟨bk, 2, none⟩ (.int .i64 k.e)).setCell ⟨bk, 3, none⟩ (.int .i64 k.a)).setCell ⟨bk, 4, none⟩ (.int .i64 k.b)).setCell ⟨bk, 5, none⟩ (.int .i64 k.c)).setCell ⟨bk, 6, none⟩ (.int .i32 k.imm)).setCell ⟨bk, 7, none⟩ (.slice p k.args.length q)) = W9 at H8 HA8 HP8 HB8 HK8 ⊢
  clear d0 d1 d2 d3 d4 d5 d6 d7 z
  obtain ⟨d0, d1, d2, d3, d4, d5, d6, d7, z⟩ := H8.out.cells
  go_wp2_with fail
  have htx := text_any m HIN.out a c W9 HA8.out (tabIs_below HT.out HB8.out) (tabIs_below HP.out HB8.out)
  unfold cellsM at htx
  refine htx.mono ?_
  rintro e w10 ⟨rfl, hb3⟩
  have HI10 := Lib.hid (H8.out.below hb3)
  have HK10 := Lib.hid (HK8.out.below hb3)
  have HB10 := Lib.hid (below_step HB8.out hb3)
  have HA10 := Lib.hid (HA8.out.below hb3)
  have HP10 := Lib.hid (HP8.out.below hb3)
  clear htx hb3 H8 HK8 HA8 HP8 HB8 d0 d1 d2 d3 d4 d5 d6 d7 z
  obtain ⟨d0, d1, d2, d3, d4, d5, d6, d7, z⟩ := HK10.out.cells
  go_wp2_with fail
  have htx := text_any k HKN.out p q w10 HP10.out (tabIs_below HT.out HB10.out) (tabIs_below HP.out HB10.out)
  unfold cellsM at htx
  refine htx.mono ?_
  rintro e w11 ⟨rfl, hb3⟩
  have HI11 := Lib.hid (HI10.out.below hb3)
  have HK11 := Lib.hid (HK10.out.below hb3)
  have HB11 := Lib.hid (below_step HB10.out hb3)
  have HA11 := Lib.hid (HA10.out.below hb3)
  have HP11 := Lib.hid (HP10.out.below hb3)
  clear htx hb3 HI10 HK10 HA10 HP10 HB10 d0 d1 d2 d3 d4 d5 d6 d7 z
  obtain ⟨d0, d1, d2, d3, d4, d5, d6, d7, z⟩ := HI11.out.cells
  go_upto_region 6 with (fail)
  have hszm : ∀ W, Below w11.heap.size w11 W → Calls Tryd.prog 19 #[.agg #[.int .i64 m.op, .int .i64 m.d, .int .i64 m.e, .int .i64 m.a, .int .i64 m.b, .int .i64 m.c, .int .i32 m.imm, .slice a m.args.length c]] W fun e w' => e = .returned (.int .i64 (sizeM m)) ∧ Below W.heap.size W w' := fun W hW => size_any m a c W (HA11.out.below hW) (tabIs_below HT.out (below_step HB11.out hW))
  have hszk : ∀ W, Below w11.heap.size w11 W → Calls Tryd.prog 19 #[.agg #[.int .i64 k.op, .int .i64 k.d, .int .i64 k.e, .int .i64 k.a, .int .i64 k.b, .int .i64 k.c, .int .i32 k.imm, .slice p k.args.length q]] W fun e w' => e = .returned (.int .i64 (sizeM k)) ∧ Below W.heap.size W w' := fun W hW => size_any k p q W (HP11.out.below hW) (tabIs_below HT.out (below_step HB11.out hW))
  have HZM := Lib.hid hszm
  have HZK := Lib.hid hszk
  clear hszm hszk
  have hpl : ∀ W n A c, ArgsIn W n A c → n.args.length ≤ 1000 → Calls Tryd.prog 27 #[.agg #[.int .i64 n.op, .int .i64 n.d, .int .i64 n.e, .int .i64 n.a, .int .i64 n.b, .int .i64 n.c, .int .i32 n.imm, .slice A n.args.length c]] W (HandsM (plainM n) W) := fun W n A c hW hn => plain_any n A c W hW (by omega)
  have hsm1 : ∀ W A B ca cb, ArgsIn W (plainM m) A ca → ArgsIn W (plainM k) B cb → Calls Tryd.prog 26 #[.agg #[.int .i64 (plainM m).op, .int .i64 (plainM m).d, .int .i64 (plainM m).e, .int .i64 (plainM m).a, .int .i64 (plainM m).b, .int .i64 (plainM m).c, .int .i32 (plainM m).imm, .slice A (plainM m).args.length ca], .agg #[.int .i64 (plainM k).op, .int .i64 (plainM k).d, .int .i64 (plainM k).e, .int .i64 (plainM k).a, .int .i64 (plainM k).b, .int .i64 (plainM k).c, .int .i32 (plainM k).imm, .slice B (plainM k).args.length cb]] W fun e w' => e = .returned (.bool (sameM (plainM m) (plainM k))) ∧ Below W.heap.size W w' := fun W A B ca cb h1 h2 => same_any (plainM m) (plainM k) A B ca cb W h1 h2 (by unfold plainM; dsimp only; split <;> (try simp) <;> omega)
  have HPL := Lib.hid hpl
  have HSM0 := Lib.hid hsm1
  clear hpl hsm1
  have fm : ((textM m).isEmpty = true ∧ (sizeM m == 0) = true ∧ shapeOk m = false) ∨ ((textM m).isEmpty = false ∧ (sizeM m == 0) = false ∧ shapeOk m = true) := by
    cases hs : shapeOk m
    · exact .inl ⟨by rw [text_none m hs]; rfl, by rw [size_none m hs]; rfl, rfl⟩
    · have h1 := size_pos m hs
      have h2 := text_ne m hs
      exact .inr ⟨by simpa using h2, by simp; omega, rfl⟩
  have fk : ((textM k).isEmpty = true ∧ (sizeM k == 0) = true ∧ shapeOk k = false) ∨ ((textM k).isEmpty = false ∧ (sizeM k == 0) = false ∧ shapeOk k = true) := by
    cases hs : shapeOk k
    · exact .inl ⟨by rw [text_none k hs]; rfl, by rw [size_none k hs]; rfl, rfl⟩
    · have h1 := size_pos k hs
      have h2 := text_ne k hs
      exact .inr ⟨by simpa using h2, by simp; omega, rfl⟩
  have hname := name_any m.op
  have htn := text_name m
  have hti := @text_iff m k
  have HNAME := Lib.hid hname
  have HTN := Lib.hid htn
  have HTI := Lib.hid hti
  have HFM := Lib.hid fm
  have HFK := Lib.hid fk
  clear hname htn hti fm fk
  generalize textM m = TX at HTN HTI HFM ⊢
  generalize textM k = TY at HTI HFK ⊢
  generalize sizeM m = ZX at HZM HFM
  generalize sizeM k = ZY at HZK HFK
  go_wp2_with fail
  refine (HZM.out w11 (Below.refl _ _)).mono ?_
  rintro e w12 ⟨rfl, hb12⟩
  have HI12 := Lib.hid (HI11.out.below hb12)
  have HK12 := Lib.hid (HK11.out.below hb12)
  have HB12 := Lib.hid (below_step HB11.out hb12)
  have HL12 := Lib.hid hb12
  clear hb12 d0 d1 d2 d3 d4 d5 d6 d7 z
  obtain ⟨d0, d1, d2, d3, d4, d5, d6, d7, z⟩ := HK12.out.cells
  rcases HFM.out with ⟨m1, m2, m3⟩ | ⟨m1, m2, m3⟩
  all_goals
    rcases HFK.out with ⟨k1, k2, k3⟩ | ⟨k1, k2, k3⟩
  all_goals
    have M3 := Lib.hid m3
    have K3 := Lib.hid k3
    clear m3 k3
    go_wp2_with fail
    refine (HZK.out w12 HL12.out).mono ?_
    rintro e w13 ⟨rfl, hb13⟩
    have HI13 := Lib.hid (HI12.out.below hb13)
    have HK13 := Lib.hid (HK12.out.below hb13)
    have HB13 := Lib.hid (below_step HB12.out hb13)
    have HL13 := Lib.hid (below_step HL12.out hb13)
    clear hb13 d0 d1 d2 d3 d4 d5 d6 d7 z
    obtain ⟨d0, d1, d2, d3, d4, d5, d6, d7, z⟩ := HI13.out.cells
    go_wp2_with fail
  · go_ret
    exact ⟨rfl, HB13.out⟩
  · go_ret
    exact ⟨rfl, HB13.out⟩
  · go_ret
    exact ⟨rfl, HB13.out⟩
  · refine (HNAME.out w13 (tabIs_below HT.out HB13.out)).mono ?_
    rintro e w14 ⟨rfl, hb14⟩
    have HI14 := Lib.hid (HI13.out.below hb14)
    have HK14 := Lib.hid (HK13.out.below hb14)
    have HB14 := Lib.hid (below_step HB13.out hb14)
    have HL14 := below_step HL13.out hb14
    have HA14 := Lib.hid (HA11.out.below HL14)
    have HP14 := Lib.hid (HP11.out.below HL14)
    clear hb14 HL14 d0 d1 d2 d3 d4 d5 d6 d7 z
    obtain ⟨h1, h2, h3⟩ := HTN.out M3.out
    have hiff := HTI.out M3.out K3.out
    have hcmp : (TX == TY) = sameM (plainM m) (plainM k) := by
      rw [Bool.eq_iff_iff, beq_iff_eq, sameM_iff]
      exact hiff
    have hcutz : (bs TX).extract 0 (nameOf m.op).length = bs (nameOf m.op) := by rw [bs_cut, h2]
    clear hiff h2
    generalize nameOf m.op = NM at h1 h3 hcutz ⊢
    have hs1 := bs_size TX
    have hs2 := bs_size NM
    generalize plainM = PL at HPL HSM0 hcmp
    generalize sameM (PL m) (PL k) = b1 at HSM0 hcmp
    have HSM := HSM0
    have hb1 : (b1 == b1) = true := by cases b1 <;> rfl
    have g1 : (0 : Int) < (NM.length : Int) := by omega
    have g2 : (NM.length : Int) ≤ (TX.length : Int) := by omega
    obtain ⟨d0, d1, d2, d3, d4, d5, d6, d7, z⟩ := HI14.out.cells
    obtain ⟨k0, k1, k2, k3, k4, k5, k6, k7, kz⟩ := HK14.out.cells
    go_upto_region 11 with (fail)
    have HI := HI14
    have HG := HK14
    have HK := Lib.hid (Below.refl w14.heap.size w14)
    go_region_held3 (fun w' => w'.cell? ⟨w.heap.size, 0, none⟩ = some (.int .i64 m.op) ∧ w'.cell? ⟨w.heap.size, 1, none⟩ = some (.int .i64 m.d) ∧ w'.cell? ⟨w.heap.size, 2, none⟩ = some (.int .i64 m.e) ∧ w'.cell? ⟨w.heap.size, 3, none⟩ = some (.int .i64 m.a) ∧ w'.cell? ⟨w.heap.size, 4, none⟩ = some (.int .i64 m.b) ∧ w'.cell? ⟨w.heap.size, 5, none⟩ = some (.int .i64 m.c) ∧ w'.cell? ⟨w.heap.size, 6, none⟩ = some (.int .i32 m.imm) ∧ w'.cell? ⟨w.heap.size, 7, none⟩ = some (.slice a m.args.length c) ∧ w'.cell? ⟨bk, 0, none⟩ = some (.int .i64 k.op) ∧ w'.cell? ⟨bk, 1, none⟩ = some (.int .i64 k.d) ∧ w'.cell? ⟨bk, 2, none⟩ = some (.int .i64 k.e) ∧ w'.cell? ⟨bk, 3, none⟩ = some (.int .i64 k.a) ∧ w'.cell? ⟨bk, 4, none⟩ = some (.int .i64 k.b) ∧ w'.cell? ⟨bk, 5, none⟩ = some (.int .i64 k.c) ∧ w'.cell? ⟨bk, 6, none⟩ = some (.int .i32 k.imm) ∧ w'.cell? ⟨bk, 7, none⟩ = some (.slice p k.args.length q)) (go_keep)
      (first
      | (go_at_call 27; refine (HPL.out _ _ _ _ (by first | exact HA14.out.below HK.out | exact (HA14.out.below HK.out).same rfl | exact HP14.out.below HK.out | exact (HP14.out.below HK.out).same rfl | exact HA14.out.below (below_drewR HK.out) | exact (HA14.out.below (below_drewR HK.out)).same rfl | exact HP14.out.below (below_drewR HK.out) | exact (HP14.out.below (below_drewR HK.out)).same rfl) (by first | exact hms | exact hks)).mono ?_; rintro e wq ⟨ap, cp, rfl, hq, harp, hfrp⟩; (have HK := Lib.hid (below_step HK.out (by first | exact below_drewN_left hq | exact below_drew_left hq | exact hq))); (have HI := Lib.hid (HI.out.below (by first | exact below_drewN_left hq | exact below_drew_left hq | exact hq))); (have HG := Lib.hid (HG.out.below (by first | exact below_drewN_left hq | exact below_drew_left hq | exact hq))); (obtain ⟨d0, d1, d2, d3, d4, d5, d6, d7, z⟩ := HI.out.cells); (obtain ⟨k0, k1, k2, k3, k4, k5, k6, k7, kz⟩ := HG.out.cells); (try (have HAP0 := Lib.hid (HAP.out.below (by first | exact below_drewN_left hq | exact below_drew_left hq | exact hq)))); (have HAP := Lib.hid harp); clear hq harp hfrp; unfold cellsM)
      | (go_at_call 26; refine (HSM.out _ _ _ _ _ (by first | exact HAP.out | exact HAP0.out | exact (HAP.out.below (below_drewR (Below.refl _ _))) | exact (HAP0.out.below (below_drewR (Below.refl _ _)))) (by first | exact HAP.out | exact HAP0.out | exact (HAP.out.below (below_drewR (Below.refl _ _))) | exact (HAP0.out.below (below_drewR (Below.refl _ _))))).mono ?_; rintro e wq ⟨rfl, hq⟩; (have HK := Lib.hid (below_step HK.out (by first | exact below_drewN_left hq | exact below_drew_left hq | exact hq))); (have HI := Lib.hid (HI.out.below (by first | exact below_drewN_left hq | exact below_drew_left hq | exact hq))); (have HG := Lib.hid (HG.out.below (by first | exact below_drewN_left hq | exact below_drew_left hq | exact hq))); (obtain ⟨d0, d1, d2, d3, d4, d5, d6, d7, z⟩ := HI.out.cells); (obtain ⟨k0, k1, k2, k3, k4, k5, k6, k7, kz⟩ := HG.out.cells); clear hq))
    all_goals
      go_wp2_with fail
      go_ret
      exact ⟨rfl, HB14.out.trans (HK.out.mono HB14.out.size)⟩
end Go.Proofs.YtmoplcchiadlpaaDoor.Jc
