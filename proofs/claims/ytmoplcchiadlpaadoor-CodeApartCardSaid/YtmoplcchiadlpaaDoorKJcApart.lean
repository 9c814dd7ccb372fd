/- jacquardlaw18.CodeApart, walked: it returns true. -/
import Derived.Test.YtmoplcchiadlpaaDoorKMJcRefP
import Derived.Test.YtmoplcchiadlpaaDoorKMJcGet
import Derived.Deep.DeepCutAuto
import Derived.Deep.CutBlock
import Derived.Deep.QuietTactic
import Derived.BigQuiet
import Derived.Deep.RegionHeld3
set_option linter.unusedVariables false
set_option linter.unusedSimpArgs false
namespace Go.Proofs.YtmoplcchiadlpaaDoor.Jc
open Go Go.RowKit Go.ChangeMaps Go.Proofs.YtmoplcchiadlpaaDoorW.PrintWords

theorem bs_list (l : List UInt8) : (bs l).toList = l := by simp [bs]
set_option maxRecDepth 100000 in
set_option maxHeartbeats 4000000 in
theorem apart_walk (w : World) (m0 : M) (a0 : Option Addr) (c0 : Nat) (n0 : M) (p0 : Option Addr) (q0 : Nat) (imm : Int) (hm : CameIn w m0 a0 c0) (hn : CameIn w n0 p0 q0) (him : -2147483648 ≤ imm ∧ imm ≤ 2147483647) (htab : Lib.TabIs Tryd.prog w "strings.asciiSpace" .u8 Lib.asciiSpaceTab) (hpow : Lib.TabIs Tryd.prog w "internal/strconv.uint64pow10" .u64 Lib.pow10Tab) :
    Calls Tryd.prog 8 #[.agg (cellsM m0 a0 c0), .agg (cellsM n0 p0 q0), .int .i32 imm] w fun e w' => e = .returned (.bool true) ∧ Below w.heap.size w w' := by
  have HT := Lib.hid htab
  have HP := Lib.hid hpow
  have HIN := Lib.hid hm.go.few
  have HKN := Lib.hid hn.go.few
  have HA0 := Lib.hid hm.1
  have HP0 := Lib.hid hn.1
  clear htab hpow hm hn
  unfold cellsM
  go_enter Tryd.func8, Tryd.ntmps8
  go_wp2_with fail
  have hz := alloc_size w (.cells #[.int .i64 m0.op, .int .i64 m0.d, .int .i64 m0.e, .int .i64 m0.a, .int .i64 m0.b, .int .i64 m0.c, .int .i32 m0.imm, .slice a0 m0.args.length c0] 24)
  have hi : MachAt (w.alloc (.cells #[.int .i64 m0.op, .int .i64 m0.d, .int .i64 m0.e, .int .i64 m0.a, .int .i64 m0.b, .int .i64 m0.c, .int .i32 m0.imm, .slice a0 m0.args.length c0] 24)) w.heap.size m0 a0 c0 := alloc_at _ _
  have hb := below_alloc (Below.refl w.heap.size w) (.cells #[.int .i64 m0.op, .int .i64 m0.d, .int .i64 m0.e, .int .i64 m0.a, .int .i64 m0.b, .int .i64 m0.c, .int .i32 m0.imm, .slice a0 m0.args.length c0] 24)
  generalize w.alloc (.cells #[.int .i64 m0.op, .int .i64 m0.d, .int .i64 m0.e, .int .i64 m0.a, .int .i64 m0.b, .int .i64 m0.c, .int .i32 m0.imm, .slice a0 m0.args.length c0] 24) = V0 at hz hi hb ⊢
  have hk : MachAt (V0.alloc (.cells #[.int .i64 n0.op, .int .i64 n0.d, .int .i64 n0.e, .int .i64 n0.a, .int .i64 n0.b, .int .i64 n0.c, .int .i32 n0.imm, .slice p0 n0.args.length q0] 24)) V0.heap.size n0 p0 q0 := alloc_at _ _
  have hi : MachAt (V0.alloc (.cells #[.int .i64 n0.op, .int .i64 n0.d, .int .i64 n0.e, .int .i64 n0.a, .int .i64 n0.b, .int .i64 n0.c, .int .i32 n0.imm, .slice p0 n0.args.length q0] 24)) w.heap.size m0 a0 c0 := alloc_old hi
  have hb := below_alloc hb (.cells #[.int .i64 n0.op, .int .i64 n0.d, .int .i64 n0.e, .int .i64 n0.a, .int .i64 n0.b, .int .i64 n0.c, .int .i32 n0.imm, .slice p0 n0.args.length q0] 24)
  generalize V0.alloc (.cells #[.int .i64 n0.op, .int .i64 n0.d, .int .i64 n0.e, .int .i64 n0.a, .int .i64 n0.b, .int .i64 n0.c, .int .i32 n0.imm, .slice p0 n0.args.length q0] 24) = V1 at hk hi hb ⊢
  rw [hz] at hk
  generalize hBk : w.heap.size + 1 = bk at hk hz ⊢
  have hne : w.heap.size ≠ bk := by omega
  have hge : w.heap.size ≤ bk := by omega
  clear hz hBk
  refine (shown_any _ (tabIs_below HT.out hb) (tabIs_below HP.out hb)).mono ?_
  rintro e w1 ⟨rfl, hb1⟩
  have hi1 := hi.below hb1
  have hk1 := hk.below hb1
  have hB1 := below_step hb hb1
  obtain ⟨d0, d1, d2, d3, d4, d5, d6, d7, z⟩ := hi1.cells
  have HI1 := Lib.hid hi1
  have HK1 := Lib.hid hk1
  have HB1 := Lib.hid hB1
  clear hi hk hb hb1 hi1 hk1 hB1
  go_wp2_with fail
  have hf := few_any m0 a0 c0 w1 (HA0.out.below HB1.out)
  unfold cellsM at hf
  refine hf.mono ?_
  rintro e w2 ⟨a, c, rfl, hb2, har, hfr⟩
  have hi2 := HI1.out.below hb2
  have hk2 := HK1.out.below hb2
  have hB2 := below_step HB1.out hb2
  have hlt := HI1.out.lt
  have hltk := HK1.out.lt
  have hlt2 := hk2.lt
  have hfk : ∀ ad, a = some ad → bk < ad.block := fun ad ha => by have := hfr ad ha; omega
  obtain ⟨d0, d1, d2, d3, d4, d5, d6, d7, z⟩ := hi2.cells
  have hms : (fewM m0).args.length ≤ 1000 := by unfold fewM; rw [List.length_take]; omega
  generalize fewM m0 = m at HIN har hfr hms ⊢
  have hg8 := set8_grown w2 w.heap.size m a c
  have h8 := set8_at hi2 m a c
  have hk8 := hk2.grown hg8 (Ne.symm hne)
  have ha8 := har.grown hg8 (fun ad ha => by have := hfr ad ha; omega)
  have hB8 := grown_low hB2 hg8 (Nat.le_refl _)
  have hs8 : (set8 w2 w.heap.size m a c).heap.size = w2.heap.size := by unfold set8; simp
  unfold set8 at h8 ha8 hB8 hk8 hs8
  have H8 := Lib.hid h8
  have HK8 := Lib.hid hk8
  have HA8 := Lib.hid ha8
  have HB8 := Lib.hid hB8
  unfold cellsM
  clear hf hb2 har hi2 hk2 hB2 hg8 h8 hk8 ha8 hB8 HA0 HI1 HB1 HK1
  go_upto_region 3 with (fail)
  generalize ((((((((w2.setCell ⟨w.heap.size, 0, none⟩ (.int .i64 m.op)).setCell ⟨w.heap.size, 1, none⟩ (.int .i64 m.d)).setCell ⟨w.heap.size, 2, none⟩ (.int .i64 m.e)).setCell ⟨w.heap.size, 3, none⟩ (.int .i64 m.a)).setCell ⟨w.heap.size, 4, none⟩ (.int .i64 m.b)).setCell ⟨w.heap.size, 5, none⟩ (.int .i64 m.c)).setCell ⟨w.heap.size, 6, none⟩ (.int .i32 m.imm)).setCell ⟨w.heap.size, 7, none⟩ (.slice a m.args.length c)) = W8 at H8 HA8 HB8 HK8 hs8 ⊢
  clear d0 d1 d2 d3 d4 d5 d6 d7 z
  obtain ⟨d0, d1, d2, d3, d4, d5, d6, d7, z⟩ := HK8.out.cells
  go_wp2_with fail
  have hf := few_any n0 p0 q0 W8 (HP0.out.below HB8.out)
  unfold cellsM at hf
  refine hf.mono ?_
  rintro e w4 ⟨p, q, rfl, hb4, har4, hfr4⟩
  have hi4 := H8.out.below hb4
  have hk4 := HK8.out.below hb4
  have ha4 := HA8.out.below hb4
  have hB4 := below_step HB8.out hb4
  have hltk4 := HK8.out.lt
  obtain ⟨d0, d1, d2, d3, d4, d5, d6, d7, z⟩ := hk4.cells
  have hks : (fewM n0).args.length ≤ 1000 := by unfold fewM; rw [List.length_take]; omega
  generalize fewM n0 = k at HKN har4 hfr4 hks ⊢
  have hg8 := set8_grown w4 bk k p q
  have hk8 := set8_at hk4 k p q
  have hi8 := hi4.grown hg8 hne
  have hp8 := har4.grown hg8 (fun ad ha => by have := hfr4 ad ha; omega)
  have ha8 := ha4.grown hg8 (fun ad ha => by have := hfk ad ha; omega)
  have hB8 := grown_low hB4 hg8 hge
  unfold set8 at hk8 hi8 hp8 ha8 hB8
  clear H8 HA8 HB8 HK8
  have H8 := Lib.hid hi8
  have HK8 := Lib.hid hk8
  have HA8 := Lib.hid ha8
  have HP8 := Lib.hid hp8
  have HB8 := Lib.hid hB8
  unfold cellsM
  clear hf hb4 har4 hfr4 hi4 hk4 ha4 hB4 hg8 hk8 hi8 hp8 ha8 hB8 HP0
  go_upto_region 4 with (fail)
  generalize ((((((((w4.setCell ⟨bk, 0, none⟩ (.int .i64 k.op)).setCell ⟨bk, 1, none⟩ (.int .i64 k.d)).setCell ⟨bk, 2, none⟩ (.int .i64 k.e)).setCell ⟨bk, 3, none⟩ (.int .i64 k.a)).setCell ⟨bk, 4, none⟩ (.int .i64 k.b)).setCell ⟨bk, 5, none⟩ (.int .i64 k.c)).setCell ⟨bk, 6, none⟩ (.int .i32 k.imm)).setCell ⟨bk, 7, none⟩ (.slice p k.args.length q)) = W9 at H8 HA8 HP8 HB8 HK8 ⊢
  clear d0 d1 d2 d3 d4 d5 d6 d7 z
  obtain ⟨d0, d1, d2, d3, d4, d5, d6, d7, z⟩ := H8.out.cells
  go_wp2_with fail
  have hput := put_any m HIN.out a c W9 HA8.out (tabIs_below HT.out HB8.out)
  unfold cellsM at hput
  refine hput.mono ?_
  rintro e w10 ⟨rfl, hb3⟩
  have HI10 := Lib.hid (H8.out.below hb3)
  have HK10 := Lib.hid (HK8.out.below hb3)
  have HB10 := Lib.hid (below_step HB8.out hb3)
  have HA10 := Lib.hid (HA8.out.below hb3)
  have HP10 := Lib.hid (HP8.out.below hb3)
  clear hput hb3 H8 HK8 HA8 HP8 HB8 d0 d1 d2 d3 d4 d5 d6 d7 z
  obtain ⟨d0, d1, d2, d3, d4, d5, d6, d7, z⟩ := HK10.out.cells
  go_wp2_with fail
  have hput := put_any k HKN.out p q w10 HP10.out (tabIs_below HT.out HB10.out)
  unfold cellsM at hput
  refine hput.mono ?_
  rintro e w11 ⟨rfl, hb3⟩
  have HI11 := Lib.hid (HI10.out.below hb3)
  have HK11 := Lib.hid (HK10.out.below hb3)
  have HB11 := Lib.hid (below_step HB10.out hb3)
  have HA11 := Lib.hid (HA10.out.below hb3)
  have HP11 := Lib.hid (HP10.out.below hb3)
  clear hput hb3 HI10 HK10 HA10 HP10 HB10 d0 d1 d2 d3 d4 d5 d6 d7 z
  go_upto_region 6 with (fail)
  have hsame : (putE m = 0 → putE k = 0 → (decide ((putS m).length ≤ (putS k).length) && putS m == (putS k).take (putS m).length) = sameM (plainM m) (plainM k)) := fun h1 h2 => by
    have p1 := put_of h1
    have p2 := put_of h2
    rw [Bool.eq_iff_iff, sameM_iff, Bool.and_eq_true, beq_iff_eq, decide_eq_true_eq]
    constructor
    · rintro ⟨_, h⟩
      refine put_prefix (r := (putS k).drop (putS m).length) HIN.out.imm HKN.out.imm p1 ?_
      have e : putS m ++ (putS k).drop (putS m).length = putS k := by
        conv => lhs; arg 1; rw [h]
        exact List.take_append_drop _ _
      rw [e]; exact p2
    · intro h
      have e := put_same p1 p2 h
      rw [← e]
      exact ⟨Nat.le_refl _, by rw [List.take_length]⟩
  have hsame2 : (putE m = 0 → putE {m with imm := imm} = 0 → (putS m == putS {m with imm := imm}) = sameM (plainM m) (plainM {m with imm := imm})) := fun h1 h2 => by
    have p1 := put_of h1
    have p2 := put_of h2
    rw [Bool.eq_iff_iff, sameM_iff, beq_iff_eq]
    constructor
    · intro h
      refine put_prefix (r := []) HIN.out.imm him p1 ?_
      rw [List.append_nil, h]; exact p2
    · intro h
      exact put_same p1 p2 h
  have hdn : ∀ n, Below w11.heap.size w11 (w11.drewN n) := fun n => let h := Below.refl w11.heap.size w11; ⟨h.os, h.tape, h.output, h.size, h.block⟩
  have hdr : ∀ (W : World) n, Below w.heap.size w W → Below w.heap.size w (W.drewN n) := fun W n h => ⟨h.os, h.tape, h.output, h.size, h.block⟩
  have PI : Hid (∀ W, ArgsIn W m a c → Lib.TabIs Tryd.prog W "strings.asciiSpace" .u8 Lib.asciiSpaceTab → Calls Tryd.prog 14 #[.agg #[.int .i64 m.op, .int .i64 m.d, .int .i64 m.e, .int .i64 m.a, .int .i64 m.b, .int .i64 m.c, .int .i32 imm, .slice a m.args.length c]] W fun e w' => e = .returned (.tuple #[.string (bs (putS { m with imm := imm })), .int .i64 (putE { m with imm := imm })]) ∧ Below W.heap.size W w') := Lib.hid fun W h1 h2 => by
    have h := put_any { m with imm := imm } (by have q := HIN.out; exact ⟨him, q.2, q.3, q.4, q.5, q.6, q.7, q.8, q.9⟩) a c W ⟨h1.reads, h1.cap⟩ h2
    exact h
  have HS1 := Lib.hid hsame
  have HS2 := Lib.hid hsame2
  clear hsame hsame2
  generalize hgG : putE { m with imm := imm } = G at PI HS2
  generalize hgU : putS { m with imm := imm } = U at PI HS2
  clear hgG hgU
  by_cases hE : ¬ putE m = 0
  · have b1 : (putE m != 0) = true := by simpa using hE
    have b2 : (putE m == 0) = false := by simpa using hE
    clear hE
    go_quiet (fail)
    generalize hw12 : w11.drewN _ = W12
    have hb12 : Below w11.heap.size w11 W12 := hw12 ▸ hdn _
    clear hw12
    have HI12 := Lib.hid (HI11.out.below hb12)
    have HK12 := Lib.hid (HK11.out.below hb12)
    have HB12 := Lib.hid (below_step HB11.out hb12)
    have HA12 := Lib.hid (HA11.out.below hb12)
    clear hb12
    clear d0 d1 d2 d3 d4 d5 d6 d7 z
    obtain ⟨d0, d1, d2, d3, d4, d5, d6, d7, z⟩ := HI12.out.cells
    obtain ⟨k0, k1, k2, k3, k4, k5, k6, k7, kz⟩ := HK12.out.cells
    go_upto_region 9 with (fail)
    have hg8 := set8_grown W12 bk m a c
    have hk8 := set8_at HK12.out m a c
    have hi8 := HI12.out.grown hg8 hne
    have ha8 := HA12.out.grown hg8 (fun ad ha => by have := hfk ad ha; omega)
    have hb8 := grown_low HB12.out hg8 hge
    unfold set8 at hk8 hi8 ha8 hb8
    clear hg8 d0 d1 d2 d3 d4 d5 d6 d7 z k0 k1 k2 k3 k4 k5 k6 k7 kz HI12 HK12 HB12 HA12
    generalize ((((((((W12.setCell ⟨bk, 0, none⟩ (.int .i64 m.op)).setCell ⟨bk, 1, none⟩ (.int .i64 m.d)).setCell ⟨bk, 2, none⟩ (.int .i64 m.e)).setCell ⟨bk, 3, none⟩ (.int .i64 m.a)).setCell ⟨bk, 4, none⟩ (.int .i64 m.b)).setCell ⟨bk, 5, none⟩ (.int .i64 m.c)).setCell ⟨bk, 6, none⟩ (.int .i32 m.imm)).setCell ⟨bk, 7, none⟩ (.slice a m.args.length c)) = W13 at hk8 hi8 ha8 hb8 ⊢
    have kz := hk8.cells.2.2.2.2.2.2.2.2
    have k6 := hk8.cells.2.2.2.2.2.2.1
    go_upto_region 10 with (fail)
    have hk9 : MachAt (W13.setCell ⟨bk, 6, none⟩ (.int .i32 imm)) bk { m with imm := imm } a c := set_cells hk8 6 (.int .i32 imm)
    have hi9 : MachAt (W13.setCell ⟨bk, 6, none⟩ (.int .i32 imm)) w.heap.size m a c := set_other hi8 (Ne.symm hne) 6 (.int .i32 imm)
    have hb9 := below_set hb8 hge 6 (.int .i32 imm)
    have ha9 : ArgsIn (W13.setCell ⟨bk, 6, none⟩ (.int .i32 imm)) m a c := ha8.grown (grown_set (grown_below (Below.refl W13.heap.size W13) (some bk)) 6 (.int .i32 imm)) (fun ad ha => by have := hfk ad ha; omega)
    clear kz k6 hk8 hi8 ha8 hb8
    generalize W13.setCell ⟨bk, 6, none⟩ (.int .i32 imm) = W14 at hk9 hi9 hb9 ha9 ⊢
    have HI14 := Lib.hid hi9
    have HB14 := Lib.hid hb9
    have HA14 := Lib.hid ha9
    have HK14 := Lib.hid hk9
    obtain ⟨k0, k1, k2, k3, k4, k5, k6, k7, kz⟩ := hk9.cells
    clear hk9 hi9 hb9 ha9
    go_wp2_with fail
    refine (PI.out _ HA14.out (tabIs_below HT.out HB14.out)).mono ?_
    rintro e w15 ⟨rfl, hb3⟩
    have HI15 := Lib.hid (HI14.out.below hb3)
    have HK15 := Lib.hid (HK14.out.below hb3)
    have HB15 := Lib.hid (below_step HB14.out hb3)
    have HA15 := Lib.hid (HA14.out.below hb3)
    clear hb3 k0 k1 k2 k3 k4 k5 k6 k7 kz HI14 HK14 HB14 HA14
    obtain ⟨d0, d1, d2, d3, d4, d5, d6, d7, z⟩ := HI15.out.cells
    obtain ⟨k0, k1, k2, k3, k4, k5, k6, k7, kz⟩ := HK15.out.cells
    go_upto_region 11 with (fail)
    go_quiet (fail)
    go_wp2_with fail
    go_ret
    exact ⟨rfl, by first | exact HB15.out | exact hdr _ _ HB15.out⟩
  have hE : putE m = 0 := Classical.not_not.1 hE
  have hpl : ∀ W n A c, ArgsIn W n A c → n.args.length ≤ 1000 → Calls Tryd.prog 27 #[.agg #[.int .i64 n.op, .int .i64 n.d, .int .i64 n.e, .int .i64 n.a, .int .i64 n.b, .int .i64 n.c, .int .i32 n.imm, .slice A n.args.length c]] W (HandsM (plainM n) W) := fun W n A c hW hn => plain_any n A c W hW (by omega)
  have hsm1 : ∀ W A B ca cb, ArgsIn W (plainM m) A ca → ArgsIn W (plainM k) B cb → Calls Tryd.prog 26 #[.agg #[.int .i64 (plainM m).op, .int .i64 (plainM m).d, .int .i64 (plainM m).e, .int .i64 (plainM m).a, .int .i64 (plainM m).b, .int .i64 (plainM m).c, .int .i32 (plainM m).imm, .slice A (plainM m).args.length ca], .agg #[.int .i64 (plainM k).op, .int .i64 (plainM k).d, .int .i64 (plainM k).e, .int .i64 (plainM k).a, .int .i64 (plainM k).b, .int .i64 (plainM k).c, .int .i32 (plainM k).imm, .slice B (plainM k).args.length cb]] W fun e w' => e = .returned (.bool (sameM (plainM m) (plainM k))) ∧ Below W.heap.size W w' := fun W A B ca cb h1 h2 => same_any (plainM m) (plainM k) A B ca cb W h1 h2 (by unfold plainM; dsimp only; split <;> (try simp) <;> omega)
  have hsm2 : ∀ W A B ca cb, ArgsIn W (plainM (M.mk m.op m.d m.e m.a m.b m.c m.imm m.args)) A ca → ArgsIn W (plainM (M.mk m.op m.d m.e m.a m.b m.c imm m.args)) B cb → Calls Tryd.prog 26 #[.agg #[.int .i64 (plainM (M.mk m.op m.d m.e m.a m.b m.c m.imm m.args)).op, .int .i64 (plainM (M.mk m.op m.d m.e m.a m.b m.c m.imm m.args)).d, .int .i64 (plainM (M.mk m.op m.d m.e m.a m.b m.c m.imm m.args)).e, .int .i64 (plainM (M.mk m.op m.d m.e m.a m.b m.c m.imm m.args)).a, .int .i64 (plainM (M.mk m.op m.d m.e m.a m.b m.c m.imm m.args)).b, .int .i64 (plainM (M.mk m.op m.d m.e m.a m.b m.c m.imm m.args)).c, .int .i32 (plainM (M.mk m.op m.d m.e m.a m.b m.c m.imm m.args)).imm, .slice A (plainM (M.mk m.op m.d m.e m.a m.b m.c m.imm m.args)).args.length ca], .agg #[.int .i64 (plainM (M.mk m.op m.d m.e m.a m.b m.c imm m.args)).op, .int .i64 (plainM (M.mk m.op m.d m.e m.a m.b m.c imm m.args)).d, .int .i64 (plainM (M.mk m.op m.d m.e m.a m.b m.c imm m.args)).e, .int .i64 (plainM (M.mk m.op m.d m.e m.a m.b m.c imm m.args)).a, .int .i64 (plainM (M.mk m.op m.d m.e m.a m.b m.c imm m.args)).b, .int .i64 (plainM (M.mk m.op m.d m.e m.a m.b m.c imm m.args)).c, .int .i32 (plainM (M.mk m.op m.d m.e m.a m.b m.c imm m.args)).imm, .slice B (plainM (M.mk m.op m.d m.e m.a m.b m.c imm m.args)).args.length cb]] W fun e w' => e = .returned (.bool (sameM (plainM (M.mk m.op m.d m.e m.a m.b m.c m.imm m.args)) (plainM (M.mk m.op m.d m.e m.a m.b m.c imm m.args)))) ∧ Below W.heap.size W w' := fun W A B ca cb h1 h2 => same_any (plainM (M.mk m.op m.d m.e m.a m.b m.c m.imm m.args)) (plainM (M.mk m.op m.d m.e m.a m.b m.c imm m.args)) A B ca cb W h1 h2 (by unfold plainM; dsimp only; split <;> (try simp) <;> omega)
  have hpl2 : ∀ W n v A c, ArgsIn W n A c → n.args.length ≤ 1000 → Calls Tryd.prog 27 #[.agg #[.int .i64 n.op, .int .i64 n.d, .int .i64 n.e, .int .i64 n.a, .int .i64 n.b, .int .i64 n.c, .int .i32 v, .slice A n.args.length c]] W (HandsM (plainM ⟨n.op, n.d, n.e, n.a, n.b, n.c, v, n.args⟩) W) := fun W n v A c hW hn => plain_any ⟨n.op, n.d, n.e, n.a, n.b, n.c, v, n.args⟩ A c W (hW.same rfl) (by show n.args.length ≤ 1000000; omega)
  have HS3 : Hid (putE m = 0 → G = 0 → (putS m == U) = sameM (plainM (M.mk m.op m.d m.e m.a m.b m.c m.imm m.args)) (plainM (M.mk m.op m.d m.e m.a m.b m.c imm m.args))) := HS2
  clear HS2
  generalize plainM = PL at hpl hpl2 hsm1 hsm2 HS1 HS3
  generalize sameM (PL m) (PL k) = b1 at hsm1 HS1
  generalize sameM (PL (M.mk m.op m.d m.e m.a m.b m.c m.imm m.args)) (PL (M.mk m.op m.d m.e m.a m.b m.c imm m.args)) = b2 at hsm2 HS3
  generalize hFF : putE k = F at HS1
  generalize hTT : putS k = T at HS1
  generalize hSS : putS m = S at HS1 HS3
  clear hFF hTT hSS
  have HPL1 := Lib.hid hpl
  have HPL2 := Lib.hid hpl2
  have HSM1 := Lib.hid hsm1
  have HSM2 := Lib.hid hsm2
  clear hpl hpl2 hsm1 hsm2
  clear d0 d1 d2 d3 d4 d5 d6 d7 z
  obtain ⟨d0, d1, d2, d3, d4, d5, d6, d7, z⟩ := HI11.out.cells
  obtain ⟨k0, k1, k2, k3, k4, k5, k6, k7, kz⟩ := HK11.out.cells
  by_cases hF : ¬ F = 0
  · skip
    have b1' : (F != 0) = true := by simpa using hF
    have b2' : (F == 0) = false := by simpa using hF
    rw [hE]
    clear hF
    go_quiet (fail)
    generalize hw12 : w11.drewN _ = W12
    have hb12 : Below w11.heap.size w11 W12 := hw12 ▸ hdn _
    clear hw12
    have HI12 := Lib.hid (HI11.out.below hb12)
    have HK12 := Lib.hid (HK11.out.below hb12)
    have HB12 := Lib.hid (below_step HB11.out hb12)
    have HA12 := Lib.hid (HA11.out.below hb12)
    clear hb12
    clear d0 d1 d2 d3 d4 d5 d6 d7 z
    obtain ⟨d0, d1, d2, d3, d4, d5, d6, d7, z⟩ := HI12.out.cells
    obtain ⟨k0, k1, k2, k3, k4, k5, k6, k7, kz⟩ := HK12.out.cells
    go_upto_region 9 with (fail)
    have hg8 := set8_grown W12 bk m a c
    have hk8 := set8_at HK12.out m a c
    have hi8 := HI12.out.grown hg8 hne
    have ha8 := HA12.out.grown hg8 (fun ad ha => by have := hfk ad ha; omega)
    have hb8 := grown_low HB12.out hg8 hge
    unfold set8 at hk8 hi8 ha8 hb8
    clear hg8 d0 d1 d2 d3 d4 d5 d6 d7 z k0 k1 k2 k3 k4 k5 k6 k7 kz HI12 HK12 HB12 HA12
    generalize ((((((((W12.setCell ⟨bk, 0, none⟩ (.int .i64 m.op)).setCell ⟨bk, 1, none⟩ (.int .i64 m.d)).setCell ⟨bk, 2, none⟩ (.int .i64 m.e)).setCell ⟨bk, 3, none⟩ (.int .i64 m.a)).setCell ⟨bk, 4, none⟩ (.int .i64 m.b)).setCell ⟨bk, 5, none⟩ (.int .i64 m.c)).setCell ⟨bk, 6, none⟩ (.int .i32 m.imm)).setCell ⟨bk, 7, none⟩ (.slice a m.args.length c)) = W13 at hk8 hi8 ha8 hb8 ⊢
    have kz := hk8.cells.2.2.2.2.2.2.2.2
    have k6 := hk8.cells.2.2.2.2.2.2.1
    go_upto_region 10 with (fail)
    have hk9 : MachAt (W13.setCell ⟨bk, 6, none⟩ (.int .i32 imm)) bk { m with imm := imm } a c := set_cells hk8 6 (.int .i32 imm)
    have hi9 : MachAt (W13.setCell ⟨bk, 6, none⟩ (.int .i32 imm)) w.heap.size m a c := set_other hi8 (Ne.symm hne) 6 (.int .i32 imm)
    have hb9 := below_set hb8 hge 6 (.int .i32 imm)
    have ha9 : ArgsIn (W13.setCell ⟨bk, 6, none⟩ (.int .i32 imm)) m a c := ha8.grown (grown_set (grown_below (Below.refl W13.heap.size W13) (some bk)) 6 (.int .i32 imm)) (fun ad ha => by have := hfk ad ha; omega)
    clear kz k6 hk8 hi8 ha8 hb8
    generalize W13.setCell ⟨bk, 6, none⟩ (.int .i32 imm) = W14 at hk9 hi9 hb9 ha9 ⊢
    have HI14 := Lib.hid hi9
    have HB14 := Lib.hid hb9
    have HA14 := Lib.hid ha9
    have HK14 := Lib.hid hk9
    obtain ⟨k0, k1, k2, k3, k4, k5, k6, k7, kz⟩ := hk9.cells
    clear hk9 hi9 hb9 ha9
    go_wp2_with fail
    refine (PI.out _ HA14.out (tabIs_below HT.out HB14.out)).mono ?_
    rintro e w15 ⟨rfl, hb3⟩
    have HI15 := Lib.hid (HI14.out.below hb3)
    have HK15 := Lib.hid (HK14.out.below hb3)
    have HB15 := Lib.hid (below_step HB14.out hb3)
    have HA15 := Lib.hid (HA14.out.below hb3)
    clear hb3 k0 k1 k2 k3 k4 k5 k6 k7 kz HI14 HK14 HB14 HA14
    obtain ⟨d0, d1, d2, d3, d4, d5, d6, d7, z⟩ := HI15.out.cells
    obtain ⟨k0, k1, k2, k3, k4, k5, k6, k7, kz⟩ := HK15.out.cells
    go_upto_region 11 with (fail)
    by_cases hG : ¬ G = 0
    · have g1 : (G != 0) = true := by simpa using hG
      have g2 : (G == 0) = false := by simpa using hG
      clear hG
      go_quiet (fail)
      go_wp2_with fail
      go_ret
      exact ⟨rfl, by first | exact HB15.out | exact hdr _ _ HB15.out⟩
    have hG : G = 0 := Classical.not_not.1 hG
    have hSU := HS3.out hE hG
    rw [hG]
    have HSM := HSM2
    have HPL := HPL2
    have hb2 : (b2 == b2) = true := by cases b2 <;> rfl
    have HI := HI15
    have HG := HK15
    have HK := Lib.hid (Below.refl w15.heap.size w15)
    go_region_held3 (fun w' => w'.cell? ⟨w.heap.size, 0, none⟩ = some (.int .i64 m.op) ∧ w'.cell? ⟨w.heap.size, 1, none⟩ = some (.int .i64 m.d) ∧ w'.cell? ⟨w.heap.size, 2, none⟩ = some (.int .i64 m.e) ∧ w'.cell? ⟨w.heap.size, 3, none⟩ = some (.int .i64 m.a) ∧ w'.cell? ⟨w.heap.size, 4, none⟩ = some (.int .i64 m.b) ∧ w'.cell? ⟨w.heap.size, 5, none⟩ = some (.int .i64 m.c) ∧ w'.cell? ⟨w.heap.size, 6, none⟩ = some (.int .i32 m.imm) ∧ w'.cell? ⟨w.heap.size, 7, none⟩ = some (.slice a m.args.length c) ∧ w'.cell? ⟨bk, 0, none⟩ = some (.int .i64 m.op) ∧ w'.cell? ⟨bk, 1, none⟩ = some (.int .i64 m.d) ∧ w'.cell? ⟨bk, 2, none⟩ = some (.int .i64 m.e) ∧ w'.cell? ⟨bk, 3, none⟩ = some (.int .i64 m.a) ∧ w'.cell? ⟨bk, 4, none⟩ = some (.int .i64 m.b) ∧ w'.cell? ⟨bk, 5, none⟩ = some (.int .i64 m.c) ∧ w'.cell? ⟨bk, 6, none⟩ = some (.int .i32 imm) ∧ w'.cell? ⟨bk, 7, none⟩ = some (.slice a m.args.length c)) (go_keep)
      (first
      | (go_at_call 27; refine (HPL.out _ _ _ _ _ (by first | exact HA15.out.below HK.out | exact (HA15.out.below HK.out).same rfl | exact HA15.out.below (below_drewR HK.out) | exact (HA15.out.below (below_drewR HK.out)).same rfl) (by first | exact hms | exact hks)).mono ?_; rintro e wq ⟨ap, cp, rfl, hq, harp, hfrp⟩; (have HK := Lib.hid (below_step HK.out (by first | exact below_drewN_left hq | exact below_drew_left hq | exact hq))); (have HI := Lib.hid (HI.out.below (by first | exact below_drewN_left hq | exact below_drew_left hq | exact hq))); (have HG := Lib.hid (HG.out.below (by first | exact below_drewN_left hq | exact below_drew_left hq | exact hq))); (obtain ⟨d0, d1, d2, d3, d4, d5, d6, d7, z⟩ := HI.out.cells); (obtain ⟨k0, k1, k2, k3, k4, k5, k6, k7, kz⟩ := HG.out.cells); (try (have HAP0 := Lib.hid (HAP.out.below (by first | exact below_drewN_left hq | exact below_drew_left hq | exact hq)))); (have HAP := Lib.hid harp); clear hq harp hfrp; unfold cellsM)
      | (go_at_call 26; refine (HSM.out _ _ _ _ _ (by first | exact HAP.out | exact HAP0.out | exact (HAP.out.below (below_drewR (Below.refl _ _))) | exact (HAP0.out.below (below_drewR (Below.refl _ _)))) (by first | exact HAP.out | exact HAP0.out | exact (HAP.out.below (below_drewR (Below.refl _ _))) | exact (HAP0.out.below (below_drewR (Below.refl _ _))))).mono ?_; rintro e wq ⟨rfl, hq⟩; (have HK := Lib.hid (below_step HK.out (by first | exact below_drewN_left hq | exact below_drew_left hq | exact hq))); (have HI := Lib.hid (HI.out.below (by first | exact below_drewN_left hq | exact below_drew_left hq | exact hq))); (have HG := Lib.hid (HG.out.below (by first | exact below_drewN_left hq | exact below_drew_left hq | exact hq))); (obtain ⟨d0, d1, d2, d3, d4, d5, d6, d7, z⟩ := HI.out.cells); (obtain ⟨k0, k1, k2, k3, k4, k5, k6, k7, kz⟩ := HG.out.cells); clear hq))
    all_goals
      go_wp2_with fail
      go_ret
      exact ⟨rfl, HB15.out.trans (HK.out.mono HB15.out.size)⟩
  have hF : F = 0 := Classical.not_not.1 hF
  have hc0 := HS1.out hE hF
  have HSM := HSM1
  have HPL := HPL1
  have hb1 : (b1 != b1) = false := by cases b1 <;> rfl
  by_cases hl : S.length ≤ T.length
  · have hc : (S == ((bs T).extract 0 S.length).toList) = b1 := by rw [← hc0, bs_cut, bs_list]; simp [hl]
    have hl1 : decide ((S.length : Int) ≤ (T.length : Int)) = true := by simp; omega
    have hsz1 := bs_size S
    have hsz2 := bs_size T
    rw [hE, hF]
    clear hc0
    have HI := HI11
    have HG := HK11
    have HK := Lib.hid (Below.refl w11.heap.size w11)
    go_region_held3 (fun w' => w'.cell? ⟨w.heap.size, 0, none⟩ = some (.int .i64 m.op) ∧ w'.cell? ⟨w.heap.size, 1, none⟩ = some (.int .i64 m.d) ∧ w'.cell? ⟨w.heap.size, 2, none⟩ = some (.int .i64 m.e) ∧ w'.cell? ⟨w.heap.size, 3, none⟩ = some (.int .i64 m.a) ∧ w'.cell? ⟨w.heap.size, 4, none⟩ = some (.int .i64 m.b) ∧ w'.cell? ⟨w.heap.size, 5, none⟩ = some (.int .i64 m.c) ∧ w'.cell? ⟨w.heap.size, 6, none⟩ = some (.int .i32 m.imm) ∧ w'.cell? ⟨w.heap.size, 7, none⟩ = some (.slice a m.args.length c) ∧ w'.cell? ⟨bk, 0, none⟩ = some (.int .i64 k.op) ∧ w'.cell? ⟨bk, 1, none⟩ = some (.int .i64 k.d) ∧ w'.cell? ⟨bk, 2, none⟩ = some (.int .i64 k.e) ∧ w'.cell? ⟨bk, 3, none⟩ = some (.int .i64 k.a) ∧ w'.cell? ⟨bk, 4, none⟩ = some (.int .i64 k.b) ∧ w'.cell? ⟨bk, 5, none⟩ = some (.int .i64 k.c) ∧ w'.cell? ⟨bk, 6, none⟩ = some (.int .i32 k.imm) ∧ w'.cell? ⟨bk, 7, none⟩ = some (.slice p k.args.length q)) (go_keep)
      (first
      | (go_at_call 27; refine (HPL.out _ _ _ _ (by first | exact HA11.out.below HK.out | exact (HA11.out.below HK.out).same rfl | exact HP11.out.below HK.out | exact (HP11.out.below HK.out).same rfl | exact HA11.out.below (below_drewR HK.out) | exact (HA11.out.below (below_drewR HK.out)).same rfl | exact HP11.out.below (below_drewR HK.out) | exact (HP11.out.below (below_drewR HK.out)).same rfl) (by first | exact hms | exact hks)).mono ?_; rintro e wq ⟨ap, cp, rfl, hq, harp, hfrp⟩; (have HK := Lib.hid (below_step HK.out (by first | exact below_drewN_left hq | exact below_drew_left hq | exact hq))); (have HI := Lib.hid (HI.out.below (by first | exact below_drewN_left hq | exact below_drew_left hq | exact hq))); (have HG := Lib.hid (HG.out.below (by first | exact below_drewN_left hq | exact below_drew_left hq | exact hq))); (obtain ⟨d0, d1, d2, d3, d4, d5, d6, d7, z⟩ := HI.out.cells); (obtain ⟨k0, k1, k2, k3, k4, k5, k6, k7, kz⟩ := HG.out.cells); (try (have HAP0 := Lib.hid (HAP.out.below (by first | exact below_drewN_left hq | exact below_drew_left hq | exact hq)))); (have HAP := Lib.hid harp); clear hq harp hfrp; unfold cellsM)
      | (go_at_call 26; refine (HSM.out _ _ _ _ _ (by first | exact HAP.out | exact HAP0.out | exact (HAP.out.below (below_drewR (Below.refl _ _))) | exact (HAP0.out.below (below_drewR (Below.refl _ _)))) (by first | exact HAP.out | exact HAP0.out | exact (HAP.out.below (below_drewR (Below.refl _ _))) | exact (HAP0.out.below (below_drewR (Below.refl _ _))))).mono ?_; rintro e wq ⟨rfl, hq⟩; (have HK := Lib.hid (below_step HK.out (by first | exact below_drewN_left hq | exact below_drew_left hq | exact hq))); (have HI := Lib.hid (HI.out.below (by first | exact below_drewN_left hq | exact below_drew_left hq | exact hq))); (have HG := Lib.hid (HG.out.below (by first | exact below_drewN_left hq | exact below_drew_left hq | exact hq))); (obtain ⟨d0, d1, d2, d3, d4, d5, d6, d7, z⟩ := HI.out.cells); (obtain ⟨k0, k1, k2, k3, k4, k5, k6, k7, kz⟩ := HG.out.cells); clear hq))
    go_upto_region 8 with (fail)
    have hb12 := HK.out
    clear HK HI HG
    clear HSM HPL hc hsz1 hsz2 hl1 hl
    have HI12 := Lib.hid (HI11.out.below hb12)
    have HK12 := Lib.hid (HK11.out.below hb12)
    have HB12 := Lib.hid (below_step HB11.out hb12)
    have HA12 := Lib.hid (HA11.out.below hb12)
    clear hb12
    clear d0 d1 d2 d3 d4 d5 d6 d7 z
    obtain ⟨d0, d1, d2, d3, d4, d5, d6, d7, z⟩ := HI12.out.cells
    obtain ⟨k0, k1, k2, k3, k4, k5, k6, k7, kz⟩ := HK12.out.cells
    go_upto_region 9 with (fail)
    have hg8 := set8_grown wq bk m a c
    have hk8 := set8_at HK12.out m a c
    have hi8 := HI12.out.grown hg8 hne
    have ha8 := HA12.out.grown hg8 (fun ad ha => by have := hfk ad ha; omega)
    have hb8 := grown_low HB12.out hg8 hge
    unfold set8 at hk8 hi8 ha8 hb8
    clear hg8 d0 d1 d2 d3 d4 d5 d6 d7 z k0 k1 k2 k3 k4 k5 k6 k7 kz HI12 HK12 HB12 HA12
    generalize ((((((((wq.setCell ⟨bk, 0, none⟩ (.int .i64 m.op)).setCell ⟨bk, 1, none⟩ (.int .i64 m.d)).setCell ⟨bk, 2, none⟩ (.int .i64 m.e)).setCell ⟨bk, 3, none⟩ (.int .i64 m.a)).setCell ⟨bk, 4, none⟩ (.int .i64 m.b)).setCell ⟨bk, 5, none⟩ (.int .i64 m.c)).setCell ⟨bk, 6, none⟩ (.int .i32 m.imm)).setCell ⟨bk, 7, none⟩ (.slice a m.args.length c)) = W13 at hk8 hi8 ha8 hb8 ⊢
    have kz := hk8.cells.2.2.2.2.2.2.2.2
    have k6 := hk8.cells.2.2.2.2.2.2.1
    go_upto_region 10 with (fail)
    have hk9 : MachAt (W13.setCell ⟨bk, 6, none⟩ (.int .i32 imm)) bk { m with imm := imm } a c := set_cells hk8 6 (.int .i32 imm)
    have hi9 : MachAt (W13.setCell ⟨bk, 6, none⟩ (.int .i32 imm)) w.heap.size m a c := set_other hi8 (Ne.symm hne) 6 (.int .i32 imm)
    have hb9 := below_set hb8 hge 6 (.int .i32 imm)
    have ha9 : ArgsIn (W13.setCell ⟨bk, 6, none⟩ (.int .i32 imm)) m a c := ha8.grown (grown_set (grown_below (Below.refl W13.heap.size W13) (some bk)) 6 (.int .i32 imm)) (fun ad ha => by have := hfk ad ha; omega)
    clear kz k6 hk8 hi8 ha8 hb8
    generalize W13.setCell ⟨bk, 6, none⟩ (.int .i32 imm) = W14 at hk9 hi9 hb9 ha9 ⊢
    have HI14 := Lib.hid hi9
    have HB14 := Lib.hid hb9
    have HA14 := Lib.hid ha9
    have HK14 := Lib.hid hk9
    obtain ⟨k0, k1, k2, k3, k4, k5, k6, k7, kz⟩ := hk9.cells
    clear hk9 hi9 hb9 ha9
    go_wp2_with fail
    refine (PI.out _ HA14.out (tabIs_below HT.out HB14.out)).mono ?_
    rintro e w15 ⟨rfl, hb3⟩
    have HI15 := Lib.hid (HI14.out.below hb3)
    have HK15 := Lib.hid (HK14.out.below hb3)
    have HB15 := Lib.hid (below_step HB14.out hb3)
    have HA15 := Lib.hid (HA14.out.below hb3)
    clear hb3 k0 k1 k2 k3 k4 k5 k6 k7 kz HI14 HK14 HB14 HA14
    obtain ⟨d0, d1, d2, d3, d4, d5, d6, d7, z⟩ := HI15.out.cells
    obtain ⟨k0, k1, k2, k3, k4, k5, k6, k7, kz⟩ := HK15.out.cells
    go_upto_region 11 with (fail)
    by_cases hG : ¬ G = 0
    · have g1 : (G != 0) = true := by simpa using hG
      have g2 : (G == 0) = false := by simpa using hG
      clear hG
      go_quiet (fail)
      go_wp2_with fail
      go_ret
      exact ⟨rfl, by first | exact HB15.out | exact hdr _ _ HB15.out⟩
    have hG : G = 0 := Classical.not_not.1 hG
    have hSU := HS3.out hE hG
    rw [hG]
    have HSM := HSM2
    have HPL := HPL2
    have hb2 : (b2 == b2) = true := by cases b2 <;> rfl
    have HI := HI15
    have HG := HK15
    have HK := Lib.hid (Below.refl w15.heap.size w15)
    go_region_held3 (fun w' => w'.cell? ⟨w.heap.size, 0, none⟩ = some (.int .i64 m.op) ∧ w'.cell? ⟨w.heap.size, 1, none⟩ = some (.int .i64 m.d) ∧ w'.cell? ⟨w.heap.size, 2, none⟩ = some (.int .i64 m.e) ∧ w'.cell? ⟨w.heap.size, 3, none⟩ = some (.int .i64 m.a) ∧ w'.cell? ⟨w.heap.size, 4, none⟩ = some (.int .i64 m.b) ∧ w'.cell? ⟨w.heap.size, 5, none⟩ = some (.int .i64 m.c) ∧ w'.cell? ⟨w.heap.size, 6, none⟩ = some (.int .i32 m.imm) ∧ w'.cell? ⟨w.heap.size, 7, none⟩ = some (.slice a m.args.length c) ∧ w'.cell? ⟨bk, 0, none⟩ = some (.int .i64 m.op) ∧ w'.cell? ⟨bk, 1, none⟩ = some (.int .i64 m.d) ∧ w'.cell? ⟨bk, 2, none⟩ = some (.int .i64 m.e) ∧ w'.cell? ⟨bk, 3, none⟩ = some (.int .i64 m.a) ∧ w'.cell? ⟨bk, 4, none⟩ = some (.int .i64 m.b) ∧ w'.cell? ⟨bk, 5, none⟩ = some (.int .i64 m.c) ∧ w'.cell? ⟨bk, 6, none⟩ = some (.int .i32 imm) ∧ w'.cell? ⟨bk, 7, none⟩ = some (.slice a m.args.length c)) (go_keep)
      (first
      | (go_at_call 27; refine (HPL.out _ _ _ _ _ (by first | exact HA15.out.below HK.out | exact (HA15.out.below HK.out).same rfl | exact HA15.out.below (below_drewR HK.out) | exact (HA15.out.below (below_drewR HK.out)).same rfl) (by first | exact hms | exact hks)).mono ?_; rintro e wq ⟨ap, cp, rfl, hq, harp, hfrp⟩; (have HK := Lib.hid (below_step HK.out (by first | exact below_drewN_left hq | exact below_drew_left hq | exact hq))); (have HI := Lib.hid (HI.out.below (by first | exact below_drewN_left hq | exact below_drew_left hq | exact hq))); (have HG := Lib.hid (HG.out.below (by first | exact below_drewN_left hq | exact below_drew_left hq | exact hq))); (obtain ⟨d0, d1, d2, d3, d4, d5, d6, d7, z⟩ := HI.out.cells); (obtain ⟨k0, k1, k2, k3, k4, k5, k6, k7, kz⟩ := HG.out.cells); (try (have HAP0 := Lib.hid (HAP.out.below (by first | exact below_drewN_left hq | exact below_drew_left hq | exact hq)))); (have HAP := Lib.hid harp); clear hq harp hfrp; unfold cellsM)
      | (go_at_call 26; refine (HSM.out _ _ _ _ _ (by first | exact HAP.out | exact HAP0.out | exact (HAP.out.below (below_drewR (Below.refl _ _))) | exact (HAP0.out.below (below_drewR (Below.refl _ _)))) (by first | exact HAP.out | exact HAP0.out | exact (HAP.out.below (below_drewR (Below.refl _ _))) | exact (HAP0.out.below (below_drewR (Below.refl _ _))))).mono ?_; rintro e wq ⟨rfl, hq⟩; (have HK := Lib.hid (below_step HK.out (by first | exact below_drewN_left hq | exact below_drew_left hq | exact hq))); (have HI := Lib.hid (HI.out.below (by first | exact below_drewN_left hq | exact below_drew_left hq | exact hq))); (have HG := Lib.hid (HG.out.below (by first | exact below_drewN_left hq | exact below_drew_left hq | exact hq))); (obtain ⟨d0, d1, d2, d3, d4, d5, d6, d7, z⟩ := HI.out.cells); (obtain ⟨k0, k1, k2, k3, k4, k5, k6, k7, kz⟩ := HG.out.cells); clear hq))
    all_goals
      go_wp2_with fail
      go_ret
      exact ⟨rfl, HB15.out.trans (HK.out.mono HB15.out.size)⟩
  have hc : b1 = false := by rw [← hc0]; simp [hl]
  have hl1 : decide ((S.length : Int) ≤ (T.length : Int)) = false := by simp; omega
  have hl2 : decide (S.length ≤ T.length) = false := by simp; omega
  have hl3 : ((S.length : Int) ≤ (T.length : Int)) = False := by simp; omega
  have hl4 : (S.length ≤ T.length) = False := by simp; omega
  have hsz1 := bs_size S
  have hsz2 := bs_size T
  have HSM : Hid _ := Lib.hid (hc ▸ HSM1.out)
  rw [hE, hF]
  clear hc0
  have HI := HI11
  have HG := HK11
  have HK := Lib.hid (Below.refl w11.heap.size w11)
  refine wp_region_noPanic ?_
  refine wp_region_held_drew (S := (fun w' => w'.cell? ⟨w.heap.size, 0, none⟩ = some (.int .i64 m.op) ∧ w'.cell? ⟨w.heap.size, 1, none⟩ = some (.int .i64 m.d) ∧ w'.cell? ⟨w.heap.size, 2, none⟩ = some (.int .i64 m.e) ∧ w'.cell? ⟨w.heap.size, 3, none⟩ = some (.int .i64 m.a) ∧ w'.cell? ⟨w.heap.size, 4, none⟩ = some (.int .i64 m.b) ∧ w'.cell? ⟨w.heap.size, 5, none⟩ = some (.int .i64 m.c) ∧ w'.cell? ⟨w.heap.size, 6, none⟩ = some (.int .i32 m.imm) ∧ w'.cell? ⟨w.heap.size, 7, none⟩ = some (.slice a m.args.length c) ∧ w'.cell? ⟨bk, 0, none⟩ = some (.int .i64 k.op) ∧ w'.cell? ⟨bk, 1, none⟩ = some (.int .i64 k.d) ∧ w'.cell? ⟨bk, 2, none⟩ = some (.int .i64 k.e) ∧ w'.cell? ⟨bk, 3, none⟩ = some (.int .i64 k.a) ∧ w'.cell? ⟨bk, 4, none⟩ = some (.int .i64 k.b) ∧ w'.cell? ⟨bk, 5, none⟩ = some (.int .i64 k.c) ∧ w'.cell? ⟨bk, 6, none⟩ = some (.int .i32 k.imm) ∧ w'.cell? ⟨bk, 7, none⟩ = some (.slice p k.args.length q))) (by kernel_rfl) ?_ (fun hHeld => ?_)
  · (try dsimp only); go_keep
  refine wpAnyH_take (i := 0) (oi := ({ dst := some 29, op := Op.move (Operand.tmp 9), type := 27, pos := "law.go:100", after := #[], guard := none } : Oper)) (v := ?_) rfl (by kernel_rfl) (by kernel_rfl) (by kernel_rfl) (fun _ _ _ h => h) (Or.inl ⟨by rfl, ?_⟩) (by assumption) ?_
  rotate_left
  · (intro w hSw; (try dsimp only at hSw); go_simp); (try with_reducible rfl)
  (try simp only [Act.put, List.setIfInBounds_toArray, List.set_cons_zero, List.set_cons_succ])
  refine wpAnyH_take (i := 1) (oi := ({ dst := some 30, op := Op.binOp BinOp.eql 27 (Operand.tmp 29) (Operand.const (Value.int IntKind.i64 0)) 27, type := 4, pos := "law.go:100", after := #[{ on := 0, ground := Ground.data }], guard := none } : Oper)) (v := ?_) rfl (by kernel_rfl) (by kernel_rfl) (by kernel_rfl) (fun _ _ _ h => h) (Or.inl ⟨by rfl, ?_⟩) (by assumption) ?_
  rotate_left
  · (intro w hSw; (try dsimp only at hSw); go_simp); (try with_reducible rfl)
  (try simp only [Act.put, List.setIfInBounds_toArray, List.set_cons_zero, List.set_cons_succ])
  refine wpAnyH_take (i := 2) (oi := ({ dst := some 31, op := Op.move (Operand.tmp 30), type := 4, pos := "law.go:100", after := #[{ on := 1, ground := Ground.data }], guard := none } : Oper)) (v := ?_) rfl (by kernel_rfl) (by kernel_rfl) (by kernel_rfl) (fun _ _ _ h => h) (Or.inl ⟨by rfl, ?_⟩) (by assumption) ?_
  rotate_left
  · (intro w hSw; (try dsimp only at hSw); go_simp); (try with_reducible rfl)
  (try simp only [Act.put, List.setIfInBounds_toArray, List.set_cons_zero, List.set_cons_succ])
  refine wpAnyH_take (i := 3) (oi := ({ dst := some 32, op := Op.move (Operand.tmp 11), type := 27, pos := "law.go:100", after := #[{ on := 2, ground := Ground.guard }], guard := some (2, true) } : Oper)) (v := ?_) rfl (by kernel_rfl) (by kernel_rfl) (by kernel_rfl) (fun _ _ _ h => h) (Or.inl ⟨by rfl, ?_⟩) (by assumption) ?_
  rotate_left
  · (intro w hSw; (try dsimp only at hSw); go_simp); (try with_reducible rfl)
  (try simp only [Act.put, List.setIfInBounds_toArray, List.set_cons_zero, List.set_cons_succ])
  refine wpAnyH_take (i := 4) (oi := ({ dst := some 33, op := Op.binOp BinOp.eql 27 (Operand.tmp 32) (Operand.const (Value.int IntKind.i64 0)) 27, type := 4, pos := "law.go:100", after := #[{ on := 3, ground := Ground.data }, { on := 2, ground := Ground.guard }], guard := some (2, true) } : Oper)) (v := ?_) rfl (by kernel_rfl) (by kernel_rfl) (by kernel_rfl) (fun _ _ _ h => h) (Or.inl ⟨by rfl, ?_⟩) (by assumption) ?_
  rotate_left
  · (intro w hSw; (try dsimp only at hSw); go_simp); (try with_reducible rfl)
  (try simp only [Act.put, List.setIfInBounds_toArray, List.set_cons_zero, List.set_cons_succ])
  refine wpAnyH_take (i := 5) (oi := ({ dst := some 34, op := Op.pick (Operand.tmp 31) (Operand.tmp 33) (Operand.const (Value.bool false)), type := 4, pos := "law.go:100", after := #[{ on := 2, ground := Ground.data }, { on := 4, ground := Ground.data }], guard := none } : Oper)) (v := ?_) rfl (by kernel_rfl) (by kernel_rfl) (by kernel_rfl) (fun _ _ _ h => h) (Or.inl ⟨by rfl, ?_⟩) (by assumption) ?_
  rotate_left
  · (intro w hSw; (try dsimp only at hSw); go_simp); (try with_reducible rfl)
  (try simp only [Act.put, List.setIfInBounds_toArray, List.set_cons_zero, List.set_cons_succ])
  refine wpAnyH_take (i := 6) (oi := ({ dst := some 35, op := Op.move (Operand.tmp 34), type := 4, pos := "law.go:100", after := #[{ on := 5, ground := Ground.data }, { on := 2, ground := Ground.chain }], guard := none } : Oper)) (v := ?_) rfl (by kernel_rfl) (by kernel_rfl) (by kernel_rfl) (fun _ _ _ h => h) (Or.inl ⟨by rfl, ?_⟩) (by assumption) ?_
  rotate_left
  · (intro w hSw; (try dsimp only at hSw); go_simp); (try with_reducible rfl)
  (try simp only [Act.put, List.setIfInBounds_toArray, List.set_cons_zero, List.set_cons_succ])
  refine wpAnyH_take (i := 7) (oi := ({ dst := some 36, op := Op.move (Operand.tmp 8), type := 9, pos := "law.go:100", after := #[{ on := 6, ground := Ground.guard }], guard := some (6, true) } : Oper)) (v := ?_) rfl (by kernel_rfl) (by kernel_rfl) (by kernel_rfl) (fun _ _ _ h => h) (Or.inl ⟨by rfl, ?_⟩) (by assumption) ?_
  rotate_left
  · (intro w hSw; (try dsimp only at hSw); go_simp); (try with_reducible rfl)
  (try simp only [Act.put, List.setIfInBounds_toArray, List.set_cons_zero, List.set_cons_succ])
  refine wpAnyH_take (i := 8) (oi := ({ dst := some 37, op := Op.call { callee := Callee.builtin Builtin.len, args := #[Operand.tmp 36], argTypes := #[9] }, type := 3, pos := "law.go:100", after := #[{ on := 7, ground := Ground.data }, { on := 6, ground := Ground.guard }], guard := some (6, true) } : Oper)) (v := ?_) rfl (by kernel_rfl) (by kernel_rfl) (by kernel_rfl) (fun _ _ _ h => h) (Or.inl ⟨by rfl, ?_⟩) (by assumption) ?_
  rotate_left
  · (intro w hSw; (try dsimp only at hSw); go_simp); (try with_reducible rfl)
  (try simp only [Act.put, List.setIfInBounds_toArray, List.set_cons_zero, List.set_cons_succ])
  refine wpAnyH_take (i := 9) (oi := ({ dst := some 38, op := Op.move (Operand.tmp 10), type := 9, pos := "law.go:100", after := #[{ on := 6, ground := Ground.guard }], guard := some (6, true) } : Oper)) (v := ?_) rfl (by kernel_rfl) (by kernel_rfl) (by kernel_rfl) (fun _ _ _ h => h) (Or.inl ⟨by rfl, ?_⟩) (by assumption) ?_
  rotate_left
  · (intro w hSw; (try dsimp only at hSw); go_simp); (try with_reducible rfl)
  (try simp only [Act.put, List.setIfInBounds_toArray, List.set_cons_zero, List.set_cons_succ])
  refine wpAnyH_take (i := 10) (oi := ({ dst := some 39, op := Op.call { callee := Callee.builtin Builtin.len, args := #[Operand.tmp 38], argTypes := #[9] }, type := 3, pos := "law.go:100", after := #[{ on := 9, ground := Ground.data }, { on := 6, ground := Ground.guard }], guard := some (6, true) } : Oper)) (v := ?_) rfl (by kernel_rfl) (by kernel_rfl) (by kernel_rfl) (fun _ _ _ h => h) (Or.inl ⟨by rfl, ?_⟩) (by assumption) ?_
  rotate_left
  · (intro w hSw; (try dsimp only at hSw); go_simp); (try with_reducible rfl)
  (try simp only [Act.put, List.setIfInBounds_toArray, List.set_cons_zero, List.set_cons_succ])
  refine wpAnyH_take (i := 11) (oi := ({ dst := some 40, op := Op.binOp BinOp.leq 3 (Operand.tmp 37) (Operand.tmp 39) 3, type := 4, pos := "law.go:100", after := #[{ on := 8, ground := Ground.data }, { on := 10, ground := Ground.data }, { on := 6, ground := Ground.guard }], guard := some (6, true) } : Oper)) (v := ?_) rfl (by kernel_rfl) (by kernel_rfl) (by kernel_rfl) (fun _ _ _ h => h) (Or.inl ⟨by rfl, ?_⟩) (by assumption) ?_
  rotate_left
  · (intro w hSw; (try dsimp only at hSw); go_simp); (try with_reducible rfl)
  (try simp only [Act.put, List.setIfInBounds_toArray, List.set_cons_zero, List.set_cons_succ])
  refine wpAnyH_take (i := 12) (oi := ({ dst := some 41, op := Op.move (Operand.tmp 40), type := 4, pos := "law.go:100", after := #[{ on := 11, ground := Ground.data }, { on := 6, ground := Ground.chain }, { on := 6, ground := Ground.guard }], guard := some (6, true) } : Oper)) (v := ?_) rfl (by kernel_rfl) (by kernel_rfl) (by kernel_rfl) (fun _ _ _ h => h) (Or.inl ⟨by rfl, ?_⟩) (by assumption) ?_
  rotate_left
  · (intro w hSw; (try dsimp only at hSw); go_simp); (try with_reducible rfl)
  (try simp only [Act.put, List.setIfInBounds_toArray, List.set_cons_zero, List.set_cons_succ])
  refine wpAnyH_take (i := 13) (oi := ({ dst := some 42, op := Op.move (Operand.tmp 8), type := 9, pos := "law.go:100", after := #[{ on := 12, ground := Ground.guard }], guard := some (12, true) } : Oper)) (v := undef) rfl (by kernel_rfl) (by kernel_rfl) (by kernel_rfl) (fun _ _ _ h => h) (Or.inr ⟨by rfl, rfl⟩) (by assumption) ?_
  (try simp only [Act.put, List.setIfInBounds_toArray, List.set_cons_zero, List.set_cons_succ])
  refine wpAnyH_take (i := 14) (oi := ({ dst := some 43, op := Op.move (Operand.tmp 10), type := 9, pos := "law.go:100", after := #[{ on := 12, ground := Ground.guard }], guard := some (12, true) } : Oper)) (v := undef) rfl (by kernel_rfl) (by kernel_rfl) (by kernel_rfl) (fun _ _ _ h => h) (Or.inr ⟨by rfl, rfl⟩) (by assumption) ?_
  (try simp only [Act.put, List.setIfInBounds_toArray, List.set_cons_zero, List.set_cons_succ])
  refine wpAnyH_take (i := 15) (oi := ({ dst := some 44, op := Op.move (Operand.tmp 8), type := 9, pos := "law.go:100", after := #[{ on := 12, ground := Ground.guard }], guard := some (12, true) } : Oper)) (v := undef) rfl (by kernel_rfl) (by kernel_rfl) (by kernel_rfl) (fun _ _ _ h => h) (Or.inr ⟨by rfl, rfl⟩) (by assumption) ?_
  (try simp only [Act.put, List.setIfInBounds_toArray, List.set_cons_zero, List.set_cons_succ])
  refine wpAnyH_take (i := 16) (oi := ({ dst := some 45, op := Op.call { callee := Callee.builtin Builtin.len, args := #[Operand.tmp 44], argTypes := #[9] }, type := 3, pos := "law.go:100", after := #[{ on := 15, ground := Ground.data }, { on := 12, ground := Ground.guard }], guard := some (12, true) } : Oper)) (v := undef) rfl (by kernel_rfl) (by kernel_rfl) (by kernel_rfl) (fun _ _ _ h => h) (Or.inr ⟨by rfl, rfl⟩) (by assumption) ?_
  (try simp only [Act.put, List.setIfInBounds_toArray, List.set_cons_zero, List.set_cons_succ])
  refine wpAnyH_take (i := 17) (oi := ({ dst := some 46, op := Op.slice 9 (Operand.tmp 43) none (some (Operand.tmp 45)) none, type := 9, pos := "law.go:100", after := #[{ on := 14, ground := Ground.data }, { on := 16, ground := Ground.data }, { on := 12, ground := Ground.guard }], guard := some (12, true) } : Oper)) (v := undef) rfl (by kernel_rfl) (by kernel_rfl) (by kernel_rfl) (fun _ _ _ h => h) (Or.inr ⟨by rfl, rfl⟩) (by assumption) ?_
  (try simp only [Act.put, List.setIfInBounds_toArray, List.set_cons_zero, List.set_cons_succ])
  refine wpAnyH_take (i := 18) (oi := ({ dst := some 47, op := Op.binOp BinOp.eql 9 (Operand.tmp 42) (Operand.tmp 46) 9, type := 4, pos := "law.go:100", after := #[{ on := 13, ground := Ground.data }, { on := 17, ground := Ground.data }, { on := 12, ground := Ground.guard }], guard := some (12, true) } : Oper)) (v := undef) rfl (by kernel_rfl) (by kernel_rfl) (by kernel_rfl) (fun _ _ _ h => h) (Or.inr ⟨by rfl, rfl⟩) (by assumption) ?_
  (try simp only [Act.put, List.setIfInBounds_toArray, List.set_cons_zero, List.set_cons_succ])
  refine wpAnyH_take (i := 19) (oi := ({ dst := some 48, op := Op.pick (Operand.tmp 41) (Operand.tmp 47) (Operand.const (Value.bool false)), type := 4, pos := "law.go:100", after := #[{ on := 12, ground := Ground.data }, { on := 18, ground := Ground.data }, { on := 6, ground := Ground.guard }], guard := some (6, true) } : Oper)) (v := ?_) rfl (by kernel_rfl) (by kernel_rfl) (by kernel_rfl) (fun _ _ _ h => h) (Or.inl ⟨by rfl, ?_⟩) (by assumption) ?_
  rotate_left
  · (intro w hSw; (try dsimp only at hSw); go_simp); (try with_reducible rfl)
  (try simp only [Act.put, List.setIfInBounds_toArray, List.set_cons_zero, List.set_cons_succ])
  refine wpAnyH_take (i := 20) (oi := ({ dst := some 49, op := Op.load 24 (Operand.tmp 3), type := 24, pos := "law.go:100", after := #[{ on := 6, ground := Ground.guard }], guard := some (6, true) } : Oper)) (v := ?_) rfl (by kernel_rfl) (by kernel_rfl) (by kernel_rfl) (fun _ _ _ h => h) (Or.inl ⟨by rfl, ?_⟩) (by assumption) ?_
  rotate_left
  · (intro w hSw; (try dsimp only at hSw); go_simp); (try with_reducible rfl)
  (try simp only [Act.put, List.setIfInBounds_toArray, List.set_cons_zero, List.set_cons_succ])
  refine wpAnyH_take (i := 22) (oi := ({ dst := some 51, op := Op.load 24 (Operand.tmp 4), type := 24, pos := "law.go:100", after := #[{ on := 6, ground := Ground.guard }], guard := some (6, true) } : Oper)) (v := ?_) rfl (by kernel_rfl) (by kernel_rfl) (by kernel_rfl) (fun _ _ _ h => h) (Or.inl ⟨by rfl, ?_⟩) (by assumption) ?_
  rotate_left
  · (intro w hSw; (try dsimp only at hSw); go_simp); (try with_reducible rfl)
  (try simp only [Act.put, List.setIfInBounds_toArray, List.set_cons_zero, List.set_cons_succ])
  refine wpAnyH_ready (rs := [21]) (by kernel_rfl) (by simp) ?_
  refine AllReadyH.cons (o := ({ dst := some 50, op := Op.call { callee := Callee.value (Operand.func 27), args := #[Operand.tmp 49], argTypes := #[24] }, type := 24, pos := "law.go:100", after := #[{ on := 20, ground := Ground.data }, { on := 12, ground := Ground.chain }, { on := 6, ground := Ground.guard }], guard := some (6, true) } : Oper)) rfl (fun K hK => ?_) AllReadyH.nil
  go_simp
  refine (HPL.out _ _ _ _ (by first | exact HA11.out.below HK.out | exact (HA11.out.below HK.out).same rfl | exact HP11.out.below HK.out | exact (HP11.out.below HK.out).same rfl | exact HA11.out.below (below_drewR HK.out) | exact (HA11.out.below (below_drewR HK.out)).same rfl | exact HP11.out.below (below_drewR HK.out) | exact (HP11.out.below (below_drewR HK.out)).same rfl) (by first | exact hms | exact hks)).mono ?_; rintro e wq ⟨ap, cp, rfl, hq, harp, hfrp⟩; (have HK := Lib.hid (below_step HK.out (by first | exact below_drewN_left hq | exact below_drew_left hq | exact hq))); (have HI := Lib.hid (HI.out.below (by first | exact below_drewN_left hq | exact below_drew_left hq | exact hq))); (have HG := Lib.hid (HG.out.below (by first | exact below_drewN_left hq | exact below_drew_left hq | exact hq))); (obtain ⟨d0, d1, d2, d3, d4, d5, d6, d7, z⟩ := HI.out.cells); (obtain ⟨k0, k1, k2, k3, k4, k5, k6, k7, kz⟩ := HG.out.cells); (try (have HAP0 := Lib.hid (HAP.out.below (by first | exact below_drewN_left hq | exact below_drew_left hq | exact hq)))); (have HAP := Lib.hid harp); clear hq harp hfrp; unfold cellsM
  refine hK.out _ _ ?_ (fun hHeld => ?_)
  · (try dsimp only); go_keep
  clear hK K
  (try simp only [Act.put, List.setIfInBounds_toArray, List.set_cons_zero, List.set_cons_succ])
  refine wpAnyH_ready (rs := [23]) (by kernel_rfl) (by simp) ?_
  refine AllReadyH.cons (o := ({ dst := some 52, op := Op.call { callee := Callee.value (Operand.func 27), args := #[Operand.tmp 51], argTypes := #[24] }, type := 24, pos := "law.go:100", after := #[{ on := 22, ground := Ground.data }, { on := 21, ground := Ground.chain }, { on := 6, ground := Ground.guard }], guard := some (6, true) } : Oper)) rfl (fun K hK => ?_) AllReadyH.nil
  go_simp
  refine (HPL.out _ _ _ _ (by first | exact HA11.out.below HK.out | exact (HA11.out.below HK.out).same rfl | exact HP11.out.below HK.out | exact (HP11.out.below HK.out).same rfl | exact HA11.out.below (below_drewR HK.out) | exact (HA11.out.below (below_drewR HK.out)).same rfl | exact HP11.out.below (below_drewR HK.out) | exact (HP11.out.below (below_drewR HK.out)).same rfl) (by first | exact hms | exact hks)).mono ?_; rintro e wq ⟨ap, cp, rfl, hq, harp, hfrp⟩; (have HK := Lib.hid (below_step HK.out (by first | exact below_drewN_left hq | exact below_drew_left hq | exact hq))); (have HI := Lib.hid (HI.out.below (by first | exact below_drewN_left hq | exact below_drew_left hq | exact hq))); (have HG := Lib.hid (HG.out.below (by first | exact below_drewN_left hq | exact below_drew_left hq | exact hq))); (obtain ⟨d0, d1, d2, d3, d4, d5, d6, d7, z⟩ := HI.out.cells); (obtain ⟨k0, k1, k2, k3, k4, k5, k6, k7, kz⟩ := HG.out.cells); (try (have HAP0 := Lib.hid (HAP.out.below (by first | exact below_drewN_left hq | exact below_drew_left hq | exact hq)))); (have HAP := Lib.hid harp); clear hq harp hfrp; unfold cellsM
  refine hK.out _ _ ?_ (fun hHeld => ?_)
  · (try dsimp only); go_keep
  clear hK K
  (try simp only [Act.put, List.setIfInBounds_toArray, List.set_cons_zero, List.set_cons_succ])
  refine wpAnyH_ready (rs := [24]) (by kernel_rfl) (by simp) ?_
  refine AllReadyH.cons (o := ({ dst := some 53, op := Op.call { callee := Callee.value (Operand.func 26), args := #[Operand.tmp 50, Operand.tmp 52], argTypes := #[24, 24] }, type := 4, pos := "law.go:100", after := #[{ on := 21, ground := Ground.data }, { on := 23, ground := Ground.data }, { on := 23, ground := Ground.chain }, { on := 6, ground := Ground.guard }], guard := some (6, true) } : Oper)) rfl (fun K hK => ?_) AllReadyH.nil
  go_simp
  refine (HSM.out _ _ _ _ _ (by first | exact HAP.out | exact HAP0.out | exact (HAP.out.below (below_drewR (Below.refl _ _))) | exact (HAP0.out.below (below_drewR (Below.refl _ _)))) (by first | exact HAP.out | exact HAP0.out | exact (HAP.out.below (below_drewR (Below.refl _ _))) | exact (HAP0.out.below (below_drewR (Below.refl _ _))))).mono ?_; rintro e wq ⟨rfl, hq⟩; (have HK := Lib.hid (below_step HK.out (by first | exact below_drewN_left hq | exact below_drew_left hq | exact hq))); (have HI := Lib.hid (HI.out.below (by first | exact below_drewN_left hq | exact below_drew_left hq | exact hq))); (have HG := Lib.hid (HG.out.below (by first | exact below_drewN_left hq | exact below_drew_left hq | exact hq))); (obtain ⟨d0, d1, d2, d3, d4, d5, d6, d7, z⟩ := HI.out.cells); (obtain ⟨k0, k1, k2, k3, k4, k5, k6, k7, kz⟩ := HG.out.cells); clear hq
  refine hK.out _ _ ?_ (fun hHeld => ?_)
  · (try dsimp only); go_keep
  clear hK K
  (try simp only [Act.put, List.setIfInBounds_toArray, List.set_cons_zero, List.set_cons_succ])
  refine wpAnyH_take (i := 25) (oi := ({ dst := some 54, op := Op.binOp BinOp.neq 4 (Operand.tmp 48) (Operand.tmp 53) 4, type := 4, pos := "law.go:100", after := #[{ on := 19, ground := Ground.data }, { on := 24, ground := Ground.data }, { on := 6, ground := Ground.guard }], guard := some (6, true) } : Oper)) (v := ?_) rfl (by kernel_rfl) (by kernel_rfl) (by kernel_rfl) (fun _ _ _ h => h) (Or.inl ⟨by rfl, ?_⟩) (by assumption) ?_
  rotate_left
  · (intro w hSw; (try dsimp only at hSw); go_simp); (try with_reducible rfl)
  (try simp only [Act.put, List.setIfInBounds_toArray, List.set_cons_zero, List.set_cons_succ])
  refine wpAnyH_take (i := 26) (oi := ({ dst := some 55, op := Op.pick (Operand.tmp 35) (Operand.tmp 54) (Operand.const (Value.bool false)), type := 4, pos := "law.go:100", after := #[{ on := 6, ground := Ground.data }, { on := 25, ground := Ground.data }], guard := none } : Oper)) (v := ?_) rfl (by kernel_rfl) (by kernel_rfl) (by kernel_rfl) (fun _ _ _ h => h) (Or.inl ⟨by rfl, ?_⟩) (by assumption) ?_
  rotate_left
  · (intro w hSw; (try dsimp only at hSw); go_simp); (try with_reducible rfl)
  (try simp only [Act.put, List.setIfInBounds_toArray, List.set_cons_zero, List.set_cons_succ])
  refine wpAnyH_done (by kernel_rfl) ?_ _
  refine NoPanic.normal ?_
  go_upto_region 8 with (fail)
  have hb12 := HK.out
  clear HK HI HG
  clear HSM HPL hc hsz1 hsz2 hl1 hl2 hl3 hl4 hl
  have HI12 := Lib.hid (HI11.out.below hb12)
  have HK12 := Lib.hid (HK11.out.below hb12)
  have HB12 := Lib.hid (below_step HB11.out hb12)
  have HA12 := Lib.hid (HA11.out.below hb12)
  clear hb12
  clear d0 d1 d2 d3 d4 d5 d6 d7 z
  obtain ⟨d0, d1, d2, d3, d4, d5, d6, d7, z⟩ := HI12.out.cells
  obtain ⟨k0, k1, k2, k3, k4, k5, k6, k7, kz⟩ := HK12.out.cells
  go_upto_region 9 with (fail)
  have hg8 := set8_grown wq bk m a c
  have hk8 := set8_at HK12.out m a c
  have hi8 := HI12.out.grown hg8 hne
  have ha8 := HA12.out.grown hg8 (fun ad ha => by have := hfk ad ha; omega)
  have hb8 := grown_low HB12.out hg8 hge
  unfold set8 at hk8 hi8 ha8 hb8
  clear hg8 d0 d1 d2 d3 d4 d5 d6 d7 z k0 k1 k2 k3 k4 k5 k6 k7 kz HI12 HK12 HB12 HA12
  generalize ((((((((wq.setCell ⟨bk, 0, none⟩ (.int .i64 m.op)).setCell ⟨bk, 1, none⟩ (.int .i64 m.d)).setCell ⟨bk, 2, none⟩ (.int .i64 m.e)).setCell ⟨bk, 3, none⟩ (.int .i64 m.a)).setCell ⟨bk, 4, none⟩ (.int .i64 m.b)).setCell ⟨bk, 5, none⟩ (.int .i64 m.c)).setCell ⟨bk, 6, none⟩ (.int .i32 m.imm)).setCell ⟨bk, 7, none⟩ (.slice a m.args.length c)) = W13 at hk8 hi8 ha8 hb8 ⊢
  have kz := hk8.cells.2.2.2.2.2.2.2.2
  have k6 := hk8.cells.2.2.2.2.2.2.1
  go_upto_region 10 with (fail)
  have hk9 : MachAt (W13.setCell ⟨bk, 6, none⟩ (.int .i32 imm)) bk { m with imm := imm } a c := set_cells hk8 6 (.int .i32 imm)
  have hi9 : MachAt (W13.setCell ⟨bk, 6, none⟩ (.int .i32 imm)) w.heap.size m a c := set_other hi8 (Ne.symm hne) 6 (.int .i32 imm)
  have hb9 := below_set hb8 hge 6 (.int .i32 imm)
  have ha9 : ArgsIn (W13.setCell ⟨bk, 6, none⟩ (.int .i32 imm)) m a c := ha8.grown (grown_set (grown_below (Below.refl W13.heap.size W13) (some bk)) 6 (.int .i32 imm)) (fun ad ha => by have := hfk ad ha; omega)
  clear kz k6 hk8 hi8 ha8 hb8
  generalize W13.setCell ⟨bk, 6, none⟩ (.int .i32 imm) = W14 at hk9 hi9 hb9 ha9 ⊢
  have HI14 := Lib.hid hi9
  have HB14 := Lib.hid hb9
  have HA14 := Lib.hid ha9
  have HK14 := Lib.hid hk9
  obtain ⟨k0, k1, k2, k3, k4, k5, k6, k7, kz⟩ := hk9.cells
  clear hk9 hi9 hb9 ha9
  go_wp2_with fail
  refine (PI.out _ HA14.out (tabIs_below HT.out HB14.out)).mono ?_
  rintro e w15 ⟨rfl, hb3⟩
  have HI15 := Lib.hid (HI14.out.below hb3)
  have HK15 := Lib.hid (HK14.out.below hb3)
  have HB15 := Lib.hid (below_step HB14.out hb3)
  have HA15 := Lib.hid (HA14.out.below hb3)
  clear hb3 k0 k1 k2 k3 k4 k5 k6 k7 kz HI14 HK14 HB14 HA14
  obtain ⟨d0, d1, d2, d3, d4, d5, d6, d7, z⟩ := HI15.out.cells
  obtain ⟨k0, k1, k2, k3, k4, k5, k6, k7, kz⟩ := HK15.out.cells
  go_upto_region 11 with (fail)
  by_cases hG : ¬ G = 0
  · have g1 : (G != 0) = true := by simpa using hG
    have g2 : (G == 0) = false := by simpa using hG
    clear hG
    go_quiet (fail)
    go_wp2_with fail
    go_ret
    exact ⟨rfl, by first | exact HB15.out | exact hdr _ _ HB15.out⟩
  have hG : G = 0 := Classical.not_not.1 hG
  have hSU := HS3.out hE hG
  rw [hG]
  have HSM := HSM2
  have HPL := HPL2
  have hb2 : (b2 == b2) = true := by cases b2 <;> rfl
  have HI := HI15
  have HG := HK15
  have HK := Lib.hid (Below.refl w15.heap.size w15)
  go_region_held3 (fun w' => w'.cell? ⟨w.heap.size, 0, none⟩ = some (.int .i64 m.op) ∧ w'.cell? ⟨w.heap.size, 1, none⟩ = some (.int .i64 m.d) ∧ w'.cell? ⟨w.heap.size, 2, none⟩ = some (.int .i64 m.e) ∧ w'.cell? ⟨w.heap.size, 3, none⟩ = some (.int .i64 m.a) ∧ w'.cell? ⟨w.heap.size, 4, none⟩ = some (.int .i64 m.b) ∧ w'.cell? ⟨w.heap.size, 5, none⟩ = some (.int .i64 m.c) ∧ w'.cell? ⟨w.heap.size, 6, none⟩ = some (.int .i32 m.imm) ∧ w'.cell? ⟨w.heap.size, 7, none⟩ = some (.slice a m.args.length c) ∧ w'.cell? ⟨bk, 0, none⟩ = some (.int .i64 m.op) ∧ w'.cell? ⟨bk, 1, none⟩ = some (.int .i64 m.d) ∧ w'.cell? ⟨bk, 2, none⟩ = some (.int .i64 m.e) ∧ w'.cell? ⟨bk, 3, none⟩ = some (.int .i64 m.a) ∧ w'.cell? ⟨bk, 4, none⟩ = some (.int .i64 m.b) ∧ w'.cell? ⟨bk, 5, none⟩ = some (.int .i64 m.c) ∧ w'.cell? ⟨bk, 6, none⟩ = some (.int .i32 imm) ∧ w'.cell? ⟨bk, 7, none⟩ = some (.slice a m.args.length c)) (go_keep)
    (first
    | (go_at_call 27; refine (HPL.out _ _ _ _ _ (by first | exact HA15.out.below HK.out | exact (HA15.out.below HK.out).same rfl | exact HA15.out.below (below_drewR HK.out) | exact (HA15.out.below (below_drewR HK.out)).same rfl) (by first | exact hms | exact hks)).mono ?_; rintro e wq ⟨ap, cp, rfl, hq, harp, hfrp⟩; (have HK := Lib.hid (below_step HK.out (by first | exact below_drewN_left hq | exact below_drew_left hq | exact hq))); (have HI := Lib.hid (HI.out.below (by first | exact below_drewN_left hq | exact below_drew_left hq | exact hq))); (have HG := Lib.hid (HG.out.below (by first | exact below_drewN_left hq | exact below_drew_left hq | exact hq))); (obtain ⟨d0, d1, d2, d3, d4, d5, d6, d7, z⟩ := HI.out.cells); (obtain ⟨k0, k1, k2, k3, k4, k5, k6, k7, kz⟩ := HG.out.cells); (try (have HAP0 := Lib.hid (HAP.out.below (by first | exact below_drewN_left hq | exact below_drew_left hq | exact hq)))); (have HAP := Lib.hid harp); clear hq harp hfrp; unfold cellsM)
    | (go_at_call 26; refine (HSM.out _ _ _ _ _ (by first | exact HAP.out | exact HAP0.out | exact (HAP.out.below (below_drewR (Below.refl _ _))) | exact (HAP0.out.below (below_drewR (Below.refl _ _)))) (by first | exact HAP.out | exact HAP0.out | exact (HAP.out.below (below_drewR (Below.refl _ _))) | exact (HAP0.out.below (below_drewR (Below.refl _ _))))).mono ?_; rintro e wq ⟨rfl, hq⟩; (have HK := Lib.hid (below_step HK.out (by first | exact below_drewN_left hq | exact below_drew_left hq | exact hq))); (have HI := Lib.hid (HI.out.below (by first | exact below_drewN_left hq | exact below_drew_left hq | exact hq))); (have HG := Lib.hid (HG.out.below (by first | exact below_drewN_left hq | exact below_drew_left hq | exact hq))); (obtain ⟨d0, d1, d2, d3, d4, d5, d6, d7, z⟩ := HI.out.cells); (obtain ⟨k0, k1, k2, k3, k4, k5, k6, k7, kz⟩ := HG.out.cells); clear hq))
  all_goals
    go_wp2_with fail
    go_ret
    exact ⟨rfl, HB15.out.trans (HK.out.mono HB15.out.size)⟩
end Go.Proofs.YtmoplcchiadlpaaDoor.Jc
