/- jacquardlaw18.CodeFields, walked: it returns true. -/
import Derived.Test.YtmoplcchiadlpaaDoorJcShown
import Derived.Test.YtmoplcchiadlpaaDoorJcPlain3
import Derived.Test.YtmoplcchiadlpaaDoorJcMach
import Derived.Test.YtmoplcchiadlpaaDoorJcRefA
import Derived.Deep.DeepCutAuto
import Derived.Deep.CutBlock
set_option linter.unusedVariables false
set_option linter.unusedSimpArgs false
namespace Go.Proofs.YtmoplcchiadlpaaDoor.Jc
open Go Go.RowKit Go.ChangeMaps Go.Proofs.YtmoplcchiadlpaaDoorW.PrintWords

set_option maxRecDepth 100000 in
set_option maxHeartbeats 8000000 in
theorem fields_walk (w : World) (m0 : M) (a0 : Option Addr) (c0 : Nat) (reg : Int) (hm : CameIn w m0 a0 c0) (hreg : In64 reg) (htab : Lib.TabIs Tryd.prog w "strings.asciiSpace" .u8 Lib.asciiSpaceTab) (hpow : Lib.TabIs Tryd.prog w "internal/strconv.uint64pow10" .u64 Lib.pow10Tab) :
    Calls Tryd.prog 11 #[.agg (cellsM m0 a0 c0), .int .i64 reg] w fun e w' => e = .returned (.bool true) ∧ Below w.heap.size w w' := by
  have HT := Lib.hid htab
  have HP := Lib.hid hpow
  have HIN := Lib.hid hm.go.few
  have HA0 := Lib.hid hm.1
  clear htab hpow hm
  unfold cellsM
  go_enter Tryd.func11, Tryd.ntmps11
  go_wp2_with fail
  have hi : MachAt (w.alloc (.cells #[.int .i64 m0.op, .int .i64 m0.d, .int .i64 m0.e, .int .i64 m0.a, .int .i64 m0.b, .int .i64 m0.c, .int .i32 m0.imm, .slice a0 m0.args.length c0] 24)) w.heap.size m0 a0 c0 := alloc_at _ _
  have hb := below_alloc (Below.refl w.heap.size w) (.cells #[.int .i64 m0.op, .int .i64 m0.d, .int .i64 m0.e, .int .i64 m0.a, .int .i64 m0.b, .int .i64 m0.c, .int .i32 m0.imm, .slice a0 m0.args.length c0] 24)
  generalize w.alloc (.cells #[.int .i64 m0.op, .int .i64 m0.d, .int .i64 m0.e, .int .i64 m0.a, .int .i64 m0.b, .int .i64 m0.c, .int .i32 m0.imm, .slice a0 m0.args.length c0] 24) = V1 at hi hb ⊢
  refine (shown_any _ (tabIs_below HT.out hb) (tabIs_below HP.out hb)).mono ?_
  rintro e w1 ⟨rfl, hb1⟩
  have hi1 := hi.below hb1
  have hB1 := below_step hb hb1
  obtain ⟨d0, d1, d2, d3, d4, d5, d6, d7, z⟩ := hi1.cells
  have HI1 := Lib.hid hi1
  have HB1 := Lib.hid hB1
  clear hi hb hb1 hi1 hB1
  go_wp2_with fail
  have hf := few_any m0 a0 c0 w1 (HA0.out.below HB1.out)
  unfold cellsM at hf
  refine hf.mono ?_
  rintro e w2 ⟨a, c, rfl, hb2, har, hfr⟩
  have hi2 := HI1.out.below hb2
  have hB2 := below_step HB1.out hb2
  have hlt := HI1.out.lt
  obtain ⟨d0, d1, d2, d3, d4, d5, d6, d7, z⟩ := hi2.cells
  generalize fewM m0 = m at HIN har hfr ⊢
  have hg8 := set8_grown w2 w.heap.size m a c
  have h8 := set8_at hi2 m a c
  have ha8 := har.grown hg8 (fun ad ha => by have := hfr ad ha; omega)
  have hB8 := grown_low hB2 hg8 (Nat.le_refl _)
  unfold set8 at h8 ha8 hB8
  have H8 := Lib.hid h8
  have HA8 := Lib.hid ha8
  have HB8 := Lib.hid hB8
  unfold cellsM
  clear hf hb2 har hfr hi2 hB2 hg8 h8 ha8 hB8 HA0 HI1 HB1
  go_wp2_with fail
  generalize ((((((((w2.setCell ⟨w.heap.size, 0, none⟩ (.int .i64 m.op)).setCell ⟨w.heap.size, 1, none⟩ (.int .i64 m.d)).setCell ⟨w.heap.size, 2, none⟩ (.int .i64 m.e)).setCell ⟨w.heap.size, 3, none⟩ (.int .i64 m.a)).setCell ⟨w.heap.size, 4, none⟩ (.int .i64 m.b)).setCell ⟨w.heap.size, 5, none⟩ (.int .i64 m.c)).setCell ⟨w.heap.size, 6, none⟩ (.int .i32 m.imm)).setCell ⟨w.heap.size, 7, none⟩ (.slice a m.args.length c)) = W8 at H8 HA8 HB8 ⊢
  have hput := put_any m HIN.out a c W8 HA8.out (tabIs_below HT.out HB8.out)
  unfold cellsM at hput
  refine hput.mono ?_
  rintro e w3 ⟨rfl, hb3⟩
  have hi3 := H8.out.below hb3
  have hB3 := below_step HB8.out hb3
  have ha3 := HA8.out.below hb3
  obtain ⟨d0, d1, d2, d3, d4, d5, d6, d7, z⟩ := hi3.cells
  have HI3 := Lib.hid hi3
  have HB3 := Lib.hid hB3
  have HA3 := Lib.hid ha3
  clear hput hb3 hi3 hB3 ha3 H8 HA8 HB8
  by_cases hE : ¬ putE m = 0
  · have hb : (putE m != 0) = true := by simpa using hE
    have hb2 : (putE m == 0) = false := by simpa using hE
    clear hE
    go_wp2_with fail
    go_ret
    exact ⟨rfl, HB3.out⟩
  have hE : putE m = 0 := Classical.not_not.1 hE
  have HE := Lib.hid hE
  rw [HE.out]
  by_cases h28 : m.op = 28
  · have hb : (m.op == 28) = true := by simpa using h28
    clear hE h28
    go_wp2_with fail
    go_ret
    exact ⟨rfl, HB3.out⟩
  by_cases h29 : m.op = 29
  · have hb : (m.op == 29) = true := by simpa using h29
    have hb2 : (m.op == 28) = false := by simpa using h28
    clear hE h28 h29
    go_wp2_with fail
    go_ret
    exact ⟨rfl, HB3.out⟩
  have b28 : (m.op == 28) = false := by simpa using h28
  have b29 : (m.op == 29) = false := by simpa using h29
  have hp : put m = .ok (putS m) := by
    unfold putE at hE
    unfold putS
    cases hpm : put m with
    | ok s => rfl
    | error k =>
      rw [hpm] at hE
      have hE : k = 0 := hE
      rcases put_err hpm with h | h | h | h <;> omega
  have inD : InR (setR m 68 reg) := ⟨HIN.out.imm, HIN.out.op, hreg, HIN.out.e, HIN.out.a, HIN.out.b, HIN.out.c, HIN.out.args, HIN.out.few⟩
  have inA : InR (setR m 65 reg) := ⟨HIN.out.imm, HIN.out.op, HIN.out.d, HIN.out.e, hreg, HIN.out.b, HIN.out.c, HIN.out.args, HIN.out.few⟩
  have hkey : ∀ x : UInt8, (x = 68 ∨ x = 65) → (x ∉ regsF m.op ∧ putE (setR m x reg) = 0 ∧ putS (setR m x reg) = putS m) ∨ (x ∈ regsF m.op ∧ (0 ≤ reg ∧ reg < 16) ∧ putE (setR m x reg) = 0 ∧ (putS (setR m x reg)).length = (putS m).length ∧ (putS (setR m x reg) = putS m ↔ reg = regVal m x)) ∨
      (x ∈ regsF m.op ∧ ¬ (0 ≤ reg ∧ reg < 16) ∧ putE (setR m x reg) = 31) := by
    intro x hx
    by_cases hin : x ∈ regsF m.op
    · by_cases hr : 0 ≤ reg ∧ reg < 16
      · obtain ⟨t, h1, h2, h3⟩ := put_may reg hx HIN.out.imm h28 h29 hp hin hr
        refine .inr (.inl ⟨hin, hr, by unfold putE; rw [h1], ?_, ?_⟩)
        · rw [show putS (setR m x reg) = t by unfold putS; rw [h1], h2]
        · rw [show putS (setR m x reg) = t by unfold putS; rw [h1], h3]
      · exact .inr (.inr ⟨hin, hr, by unfold putE; rw [put_bad reg hx h28 h29 hp hin hr]⟩)
    · have h1 := put_not reg hx h28 h29 hp hin
      exact .inl ⟨hin, by unfold putE; rw [h1], by unfold putS; rw [h1, hp]⟩
  have kD := hkey 68 (.inl rfl)
  have kA := hkey 65 (.inr rfl)
  rw [show regVal m 68 = m.d from rfl] at kD
  rw [show regVal m 65 = m.a from rfl] at kA
  have hrg := has_reg m.op
  clear hkey hE h28 h29 hp
  have eD : setR m 68 reg = { m with d := reg } := by unfold setR; rw [if_pos rfl]
  have eA : setR m 65 reg = { m with a := reg } := by unfold setR; rw [if_neg (by decide)]
  have pD : ∀ W, Below w3.heap.size w3 W → Calls Tryd.prog 14 #[.agg #[.int .i64 m.op, .int .i64 reg, .int .i64 m.e, .int .i64 m.a, .int .i64 m.b, .int .i64 m.c, .int .i32 m.imm, .slice a m.args.length c]] W fun e w' => e = .returned (.tuple #[.string (bs (putS (setR m 68 reg))), .int .i64 (putE (setR m 68 reg))]) ∧ Below W.heap.size W w' := fun W hW => by
    have h := put_any (setR m 68 reg) inD a c W (((HA3.out.below hW)).same (by rw [eD])) (tabIs_below HT.out (below_step HB3.out hW))
    rw [eD] at h ⊢
    exact h
  have pA : ∀ W, Below w3.heap.size w3 W → Calls Tryd.prog 14 #[.agg #[.int .i64 m.op, .int .i64 m.d, .int .i64 m.e, .int .i64 reg, .int .i64 m.b, .int .i64 m.c, .int .i32 m.imm, .slice a m.args.length c]] W fun e w' => e = .returned (.tuple #[.string (bs (putS (setR m 65 reg))), .int .i64 (putE (setR m 65 reg))]) ∧ Below W.heap.size W w' := fun W hW => by
    have h := put_any (setR m 65 reg) inA a c W (((HA3.out.below hW)).same (by rw [eA])) (tabIs_below HT.out (below_step HB3.out hW))
    rw [eA] at h ⊢
    exact h
  generalize putS (setR m 68 reg) = SD at pD kD
  generalize putE (setR m 68 reg) = ED at pD kD
  generalize putS (setR m 65 reg) = SA at pA kA
  generalize putE (setR m 65 reg) = EA at pA kA
  generalize putS m = S at kD kA ⊢
  have PD := Lib.hid pD
  have PA := Lib.hid pA
  have KD := Lib.hid kD
  have KA := Lib.hid kA
  have HRG := Lib.hid hrg
  have hlt0 := HI3.out.lt
  have hge0 := HB3.out.size
  clear pD pA kD kA hrg eD eA inD inA
  go_wp2_with fail
  have hk4 : MachAt (w3.alloc (.cells #[.int .i64 m.op, .int .i64 reg, .int .i64 m.e, .int .i64 m.a, .int .i64 m.b, .int .i64 m.c, .int .i32 m.imm, .slice a m.args.length c] 24)) w3.heap.size { m with d := reg } a c := alloc_at _ _
  have hb4 := below_alloc (Below.refl w3.heap.size w3) (.cells #[.int .i64 m.op, .int .i64 reg, .int .i64 m.e, .int .i64 m.a, .int .i64 m.b, .int .i64 m.c, .int .i32 m.imm, .slice a m.args.length c] 24)
  generalize w3.alloc (.cells #[.int .i64 m.op, .int .i64 reg, .int .i64 m.e, .int .i64 m.a, .int .i64 m.b, .int .i64 m.c, .int .i32 m.imm, .slice a m.args.length c] 24) = V4 at hk4 hb4 ⊢
  refine (PD.out _ hb4).mono ?_
  rintro e w5 ⟨rfl, hb5⟩
  have hk5 := hk4.below hb5
  have hb5 := below_step hb4 hb5
  have hi5 := HI3.out.below hb5
  clear d0 d1 d2 d3 d4 d5 d6 d7 z
  obtain ⟨d0, d1, d2, d3, d4, d5, d6, d7, z⟩ := hi5.cells
  obtain ⟨k0, k1, k2, k3, k4, k5, k6, k7, kz⟩ := hk5.cells
  have hne : w.heap.size ≠ w3.heap.size := by omega
  have HK5 := Lib.hid hk5
  have HB5 := Lib.hid hb5
  clear hk4 hb4 hk5 hb5 hi5 PD
  go_upto_region 10 with (fail)
  have hk6 := set8_at HK5.out m a c
  have hg6 := set8_grown w5 w3.heap.size m a c
  have hi6 := (HI3.out.below HB5.out).grown hg6 hne
  have hb6 := grown_low HB5.out hg6 (Nat.le_refl _)
  unfold set8 at hk6 hi6 hb6
  clear hg6 d0 d1 d2 d3 d4 d5 d6 d7 z k0 k1 k2 k3 k4 k5 k6 k7 kz
  generalize ((((((((w5.setCell ⟨w3.heap.size, 0, none⟩ (.int .i64 m.op)).setCell ⟨w3.heap.size, 1, none⟩ (.int .i64 m.d)).setCell ⟨w3.heap.size, 2, none⟩ (.int .i64 m.e)).setCell ⟨w3.heap.size, 3, none⟩ (.int .i64 m.a)).setCell ⟨w3.heap.size, 4, none⟩ (.int .i64 m.b)).setCell ⟨w3.heap.size, 5, none⟩ (.int .i64 m.c)).setCell ⟨w3.heap.size, 6, none⟩ (.int .i32 m.imm)).setCell ⟨w3.heap.size, 7, none⟩ (.slice a m.args.length c)) = W6 at hk6 hi6 hb6 ⊢
  have kz := hk6.cells.2.2.2.2.2.2.2.2
  have k3 := hk6.cells.2.2.2.1
  go_upto_region 11 with (fail)
  have hk7 : MachAt (W6.setCell ⟨w3.heap.size, 3, none⟩ (.int .i64 reg)) w3.heap.size { m with a := reg } a c := set_cells hk6 3 (.int .i64 reg)
  have hi7 : MachAt (W6.setCell ⟨w3.heap.size, 3, none⟩ (.int .i64 reg)) w.heap.size m a c := set_other hi6 (Ne.symm hne) 3 (.int .i64 reg)
  have hb7 := below_set hb6 (Nat.le_refl _) 3 (.int .i64 reg)
  clear kz k3 hk6 hi6 hb6
  generalize W6.setCell ⟨w3.heap.size, 3, none⟩ (.int .i64 reg) = W7 at hk7 hi7 hb7 ⊢
  obtain ⟨k0, k1, k2, k3, k4, k5, k6, k7, kz⟩ := hk7.cells
  have HI7 := Lib.hid hi7
  have HB7 := Lib.hid hb7
  clear hk7 hi7 hb7
  go_wp2_with fail
  refine (PA.out _ HB7.out).mono ?_
  rintro e w8 ⟨rfl, hb8⟩
  have hb8' := below_step HB7.out hb8
  have hi8 := HI7.out.below hb8
  have d0 := hi8.cells.1
  have d1 := hi8.cells.2.1
  have d3 := hi8.cells.2.2.2.1
  have hb8 := HB3.out.trans (hb8'.mono hge0)
  have HI8 := Lib.hid hi8
  have HB8 := Lib.hid hb8
  clear k0 k1 k2 k3 k4 k5 k6 k7 kz hb8' hi8 hb8 HI7 HB7 PA
  have l68 : ∀ W, Calls Tryd.prog 29 #[.int .i64 m.op, .int .u8 68] W fun e w' => e = .returned (.bool (decide ((68 : UInt8) ∈ fieldsOf m.op))) ∧ Below W.heap.size W w' := fun W => lhas_any m.op 68 W
  have l65 : ∀ W, Calls Tryd.prog 29 #[.int .i64 m.op, .int .u8 65] W fun e w' => e = .returned (.bool (decide ((65 : UInt8) ∈ fieldsOf m.op))) ∧ Below W.heap.size W w' := fun W => lhas_any m.op 65 W
  rw [HRG.out.1] at l68
  rw [HRG.out.2] at l65
  generalize hDD : decide ((68 : UInt8) ∈ regsF m.op) = D at l68
  generalize hAA : decide ((65 : UInt8) ∈ regsF m.op) = A at l65
  have kD : (D = false ∧ ED = 0 ∧ SD = S) ∨ (D = true ∧ (0 ≤ reg ∧ reg < 16) ∧ ED = 0 ∧ SD.length = S.length ∧ (SD == S) = (reg == m.d)) ∨ (D = true ∧ ¬ (0 ≤ reg ∧ reg < 16) ∧ ED = 31) := by
    rcases KD.out with ⟨h1, h2, h3⟩ | ⟨h1, h2, h3, h4, h5⟩ | ⟨h1, h2, h3⟩
    · exact .inl ⟨by rw [← hDD]; simpa using h1, h2, h3⟩
    · refine .inr (.inl ⟨by rw [← hDD]; simpa using h1, h2, h3, h4, ?_⟩)
      rw [Bool.eq_iff_iff, beq_iff_eq, beq_iff_eq]
      exact h5
    · exact .inr (.inr ⟨by rw [← hDD]; simpa using h1, h2, h3⟩)
  have kA : (A = false ∧ EA = 0 ∧ SA = S) ∨ (A = true ∧ (0 ≤ reg ∧ reg < 16) ∧ EA = 0 ∧ SA.length = S.length ∧ (SA == S) = (reg == m.a)) ∨ (A = true ∧ ¬ (0 ≤ reg ∧ reg < 16) ∧ EA = 31) := by
    rcases KA.out with ⟨h1, h2, h3⟩ | ⟨h1, h2, h3, h4, h5⟩ | ⟨h1, h2, h3⟩
    · exact .inl ⟨by rw [← hAA]; simpa using h1, h2, h3⟩
    · refine .inr (.inl ⟨by rw [← hAA]; simpa using h1, h2, h3, h4, ?_⟩)
      rw [Bool.eq_iff_iff, beq_iff_eq, beq_iff_eq]
      exact h5
    · exact .inr (.inr ⟨by rw [← hAA]; simpa using h1, h2, h3⟩)
  have hr3 : (decide (0 ≤ reg) = true ∧ decide (reg ≤ 15) = true ∧ (0 ≤ reg ∧ reg < 16)) ∨ (decide (0 ≤ reg) = true ∧ decide (reg ≤ 15) = false ∧ ¬ (0 ≤ reg ∧ reg < 16)) ∨ (decide (0 ≤ reg) = false ∧ ¬ (0 ≤ reg ∧ reg < 16)) := by
    by_cases h1 : 0 ≤ reg
    · by_cases h2 : reg ≤ 15
      · exact .inl ⟨by simpa using h1, by simpa using h2, h1, by omega⟩
      · exact .inr (.inl ⟨by simpa using h1, by simp; omega, by omega⟩)
    · exact .inr (.inr ⟨by simp; omega, by omega⟩)
  have L68 := Lib.hid l68
  have L65 := Lib.hid l65
  clear l68 l65 KD KA HRG hDD hAA
  rcases hr3 with ⟨q1, q2, hr⟩ | ⟨q1, q2, hr⟩ | ⟨q1, hr⟩
  · rcases kD with ⟨hD1, hD2, hD3⟩ | ⟨hD1, hr2, hD2, lD, eD⟩ | ⟨hD1, hr2, hD2⟩
    · rcases kA with ⟨hA1, hA2, hA3⟩ | ⟨hA1, hr4, hA2, lA, eA⟩ | ⟨hA1, hr4, hA2⟩
      · rw [hD1] at L68
        rw [hA1] at L65
        rw [hD2, hD3, hA2, hA3]
        clear hD1 hD2 hA1 hA2 hr hD3 hA3
        go_wp2_with fail
        refine (L68.out _).mono ?_
        rintro e w9 ⟨rfl, hb9⟩
        have hi9 := HI8.out.below hb9
        have hb9' := below_step HB8.out hb9
        clear d0 d1 d3
        have d0 := hi9.cells.1
        have HI9 := Lib.hid hi9
        have HB9 := Lib.hid hb9'
        clear hb9 hb9' hi9
        go_wp2_with fail
        refine (L65.out _).mono ?_
        rintro e w10 ⟨rfl, hb9⟩
        have hi9 := HI9.out.below hb9
        have hb9' := below_step HB9.out hb9
        clear d0
        have d1 := hi9.cells.2.1
        have d3 := hi9.cells.2.2.2.1
        have HB10 := Lib.hid hb9'
        clear hb9 hb9' hi9
        go_upto_region 17 with (fail)
        simp only [List.append, List.cons_append, List.nil_append, List.append_eq]
        go_wp2_with fail
        go_ret
        exact ⟨rfl, HB10.out⟩
      · rw [hD1] at L68
        rw [hA1] at L65
        rw [hD2, hD3, hA2]
        clear hD1 hD2 hA1 hA2 hr hD3 hr4
        go_wp2_with fail
        refine (L68.out _).mono ?_
        rintro e w9 ⟨rfl, hb9⟩
        have hi9 := HI8.out.below hb9
        have hb9' := below_step HB8.out hb9
        clear d0 d1 d3
        have d0 := hi9.cells.1
        have HI9 := Lib.hid hi9
        have HB9 := Lib.hid hb9'
        clear hb9 hb9' hi9
        go_wp2_with fail
        refine (L65.out _).mono ?_
        rintro e w10 ⟨rfl, hb9⟩
        have hi9 := HI9.out.below hb9
        have hb9' := below_step HB9.out hb9
        clear d0
        have d1 := hi9.cells.2.1
        have d3 := hi9.cells.2.2.2.1
        have HB10 := Lib.hid hb9'
        clear hb9 hb9' hi9
        go_upto_region 17 with (fail)
        simp only [List.append, List.cons_append, List.nil_append, List.append_eq]
        go_wp2_with fail
        go_ret
        exact ⟨rfl, HB10.out⟩
      · exact absurd hr hr4
    · rcases kA with ⟨hA1, hA2, hA3⟩ | ⟨hA1, hr4, hA2, lA, eA⟩ | ⟨hA1, hr4, hA2⟩
      · rw [hD1] at L68
        rw [hA1] at L65
        rw [hD2, hA2, hA3]
        clear hD1 hD2 hA1 hA2 hr hA3 hr2
        go_wp2_with fail
        refine (L68.out _).mono ?_
        rintro e w9 ⟨rfl, hb9⟩
        have hi9 := HI8.out.below hb9
        have hb9' := below_step HB8.out hb9
        clear d0 d1 d3
        have d0 := hi9.cells.1
        have HI9 := Lib.hid hi9
        have HB9 := Lib.hid hb9'
        clear hb9 hb9' hi9
        go_wp2_with fail
        refine (L65.out _).mono ?_
        rintro e w10 ⟨rfl, hb9⟩
        have hi9 := HI9.out.below hb9
        have hb9' := below_step HB9.out hb9
        clear d0
        have d1 := hi9.cells.2.1
        have d3 := hi9.cells.2.2.2.1
        have HB10 := Lib.hid hb9'
        clear hb9 hb9' hi9
        go_upto_region 17 with (fail)
        simp only [List.append, List.cons_append, List.nil_append, List.append_eq]
        go_wp2_with fail
        go_ret
        exact ⟨rfl, HB10.out⟩
      · rw [hD1] at L68
        rw [hA1] at L65
        rw [hD2, hA2]
        clear hD1 hD2 hA1 hA2 hr hr2 hr4
        go_wp2_with fail
        refine (L68.out _).mono ?_
        rintro e w9 ⟨rfl, hb9⟩
        have hi9 := HI8.out.below hb9
        have hb9' := below_step HB8.out hb9
        clear d0 d1 d3
        have d0 := hi9.cells.1
        have HI9 := Lib.hid hi9
        have HB9 := Lib.hid hb9'
        clear hb9 hb9' hi9
        go_wp2_with fail
        refine (L65.out _).mono ?_
        rintro e w10 ⟨rfl, hb9⟩
        have hi9 := HI9.out.below hb9
        have hb9' := below_step HB9.out hb9
        clear d0
        have d1 := hi9.cells.2.1
        have d3 := hi9.cells.2.2.2.1
        have HB10 := Lib.hid hb9'
        clear hb9 hb9' hi9
        go_upto_region 17 with (fail)
        simp only [List.append, List.cons_append, List.nil_append, List.append_eq]
        go_wp2_with fail
        go_ret
        exact ⟨rfl, HB10.out⟩
      · exact absurd hr hr4
    · exact absurd hr hr2
  · rcases kD with ⟨hD1, hD2, hD3⟩ | ⟨hD1, hr2, hD2, lD, eD⟩ | ⟨hD1, hr2, hD2⟩
    · rcases kA with ⟨hA1, hA2, hA3⟩ | ⟨hA1, hr4, hA2, lA, eA⟩ | ⟨hA1, hr4, hA2⟩
      · rw [hD1] at L68
        rw [hA1] at L65
        rw [hD2, hD3, hA2, hA3]
        clear hD1 hD2 hA1 hA2 hr hD3 hA3
        go_wp2_with fail
        refine (L68.out _).mono ?_
        rintro e w9 ⟨rfl, hb9⟩
        have hi9 := HI8.out.below hb9
        have hb9' := below_step HB8.out hb9
        clear d0 d1 d3
        have d0 := hi9.cells.1
        have HI9 := Lib.hid hi9
        have HB9 := Lib.hid hb9'
        clear hb9 hb9' hi9
        go_wp2_with fail
        refine (L65.out _).mono ?_
        rintro e w10 ⟨rfl, hb9⟩
        have hi9 := HI9.out.below hb9
        have hb9' := below_step HB9.out hb9
        clear d0
        have d1 := hi9.cells.2.1
        have d3 := hi9.cells.2.2.2.1
        have HB10 := Lib.hid hb9'
        clear hb9 hb9' hi9
        go_upto_region 17 with (fail)
        simp only [List.append, List.cons_append, List.nil_append, List.append_eq]
        go_wp2_with fail
        go_ret
        exact ⟨rfl, HB10.out⟩
      · exact absurd hr4 hr
      · rw [hD1] at L68
        rw [hA1] at L65
        rw [hD2, hD3, hA2]
        clear hD1 hD2 hA1 hA2 hr hD3 hr4
        go_wp2_with fail
        refine (L68.out _).mono ?_
        rintro e w9 ⟨rfl, hb9⟩
        have hi9 := HI8.out.below hb9
        have hb9' := below_step HB8.out hb9
        clear d0 d1 d3
        have d0 := hi9.cells.1
        have HI9 := Lib.hid hi9
        have HB9 := Lib.hid hb9'
        clear hb9 hb9' hi9
        go_wp2_with fail
        refine (L65.out _).mono ?_
        rintro e w10 ⟨rfl, hb9⟩
        have hi9 := HI9.out.below hb9
        have hb9' := below_step HB9.out hb9
        clear d0
        have d1 := hi9.cells.2.1
        have d3 := hi9.cells.2.2.2.1
        have HB10 := Lib.hid hb9'
        clear hb9 hb9' hi9
        go_upto_region 17 with (fail)
        simp only [List.append, List.cons_append, List.nil_append, List.append_eq]
        go_wp2_with fail
        go_ret
        exact ⟨rfl, HB10.out⟩
    · exact absurd hr2 hr
    · rcases kA with ⟨hA1, hA2, hA3⟩ | ⟨hA1, hr4, hA2, lA, eA⟩ | ⟨hA1, hr4, hA2⟩
      · rw [hD1] at L68
        rw [hA1] at L65
        rw [hD2, hA2, hA3]
        clear hD1 hD2 hA1 hA2 hr hA3 hr2
        go_wp2_with fail
        refine (L68.out _).mono ?_
        rintro e w9 ⟨rfl, hb9⟩
        have hi9 := HI8.out.below hb9
        have hb9' := below_step HB8.out hb9
        clear d0 d1 d3
        have d0 := hi9.cells.1
        have HI9 := Lib.hid hi9
        have HB9 := Lib.hid hb9'
        clear hb9 hb9' hi9
        go_wp2_with fail
        refine (L65.out _).mono ?_
        rintro e w10 ⟨rfl, hb9⟩
        have hi9 := HI9.out.below hb9
        have hb9' := below_step HB9.out hb9
        clear d0
        have d1 := hi9.cells.2.1
        have d3 := hi9.cells.2.2.2.1
        have HB10 := Lib.hid hb9'
        clear hb9 hb9' hi9
        go_upto_region 17 with (fail)
        simp only [List.append, List.cons_append, List.nil_append, List.append_eq]
        go_wp2_with fail
        go_ret
        exact ⟨rfl, HB10.out⟩
      · exact absurd hr4 hr
      · rw [hD1] at L68
        rw [hA1] at L65
        rw [hD2, hA2]
        clear hD1 hD2 hA1 hA2 hr hr2 hr4
        go_wp2_with fail
        refine (L68.out _).mono ?_
        rintro e w9 ⟨rfl, hb9⟩
        have hi9 := HI8.out.below hb9
        have hb9' := below_step HB8.out hb9
        clear d0 d1 d3
        have d0 := hi9.cells.1
        have HI9 := Lib.hid hi9
        have HB9 := Lib.hid hb9'
        clear hb9 hb9' hi9
        go_wp2_with fail
        refine (L65.out _).mono ?_
        rintro e w10 ⟨rfl, hb9⟩
        have hi9 := HI9.out.below hb9
        have hb9' := below_step HB9.out hb9
        clear d0
        have d1 := hi9.cells.2.1
        have d3 := hi9.cells.2.2.2.1
        have HB10 := Lib.hid hb9'
        clear hb9 hb9' hi9
        go_upto_region 17 with (fail)
        simp only [List.append, List.cons_append, List.nil_append, List.append_eq]
        go_wp2_with fail
        go_ret
        exact ⟨rfl, HB10.out⟩
  · rcases kD with ⟨hD1, hD2, hD3⟩ | ⟨hD1, hr2, hD2, lD, eD⟩ | ⟨hD1, hr2, hD2⟩
    · rcases kA with ⟨hA1, hA2, hA3⟩ | ⟨hA1, hr4, hA2, lA, eA⟩ | ⟨hA1, hr4, hA2⟩
      · rw [hD1] at L68
        rw [hA1] at L65
        rw [hD2, hD3, hA2, hA3]
        clear hD1 hD2 hA1 hA2 hr hD3 hA3
        go_wp2_with fail
        refine (L68.out _).mono ?_
        rintro e w9 ⟨rfl, hb9⟩
        have hi9 := HI8.out.below hb9
        have hb9' := below_step HB8.out hb9
        clear d0 d1 d3
        have d0 := hi9.cells.1
        have HI9 := Lib.hid hi9
        have HB9 := Lib.hid hb9'
        clear hb9 hb9' hi9
        go_wp2_with fail
        refine (L65.out _).mono ?_
        rintro e w10 ⟨rfl, hb9⟩
        have hi9 := HI9.out.below hb9
        have hb9' := below_step HB9.out hb9
        clear d0
        have d1 := hi9.cells.2.1
        have d3 := hi9.cells.2.2.2.1
        have HB10 := Lib.hid hb9'
        clear hb9 hb9' hi9
        go_upto_region 17 with (fail)
        simp only [List.append, List.cons_append, List.nil_append, List.append_eq]
        go_wp2_with fail
        go_ret
        exact ⟨rfl, HB10.out⟩
      · exact absurd hr4 hr
      · rw [hD1] at L68
        rw [hA1] at L65
        rw [hD2, hD3, hA2]
        clear hD1 hD2 hA1 hA2 hr hD3 hr4
        go_wp2_with fail
        refine (L68.out _).mono ?_
        rintro e w9 ⟨rfl, hb9⟩
        have hi9 := HI8.out.below hb9
        have hb9' := below_step HB8.out hb9
        clear d0 d1 d3
        have d0 := hi9.cells.1
        have HI9 := Lib.hid hi9
        have HB9 := Lib.hid hb9'
        clear hb9 hb9' hi9
        go_wp2_with fail
        refine (L65.out _).mono ?_
        rintro e w10 ⟨rfl, hb9⟩
        have hi9 := HI9.out.below hb9
        have hb9' := below_step HB9.out hb9
        clear d0
        have d1 := hi9.cells.2.1
        have d3 := hi9.cells.2.2.2.1
        have HB10 := Lib.hid hb9'
        clear hb9 hb9' hi9
        go_upto_region 17 with (fail)
        simp only [List.append, List.cons_append, List.nil_append, List.append_eq]
        go_wp2_with fail
        go_ret
        exact ⟨rfl, HB10.out⟩
    · exact absurd hr2 hr
    · rcases kA with ⟨hA1, hA2, hA3⟩ | ⟨hA1, hr4, hA2, lA, eA⟩ | ⟨hA1, hr4, hA2⟩
      · rw [hD1] at L68
        rw [hA1] at L65
        rw [hD2, hA2, hA3]
        clear hD1 hD2 hA1 hA2 hr hA3 hr2
        go_wp2_with fail
        refine (L68.out _).mono ?_
        rintro e w9 ⟨rfl, hb9⟩
        have hi9 := HI8.out.below hb9
        have hb9' := below_step HB8.out hb9
        clear d0 d1 d3
        have d0 := hi9.cells.1
        have HI9 := Lib.hid hi9
        have HB9 := Lib.hid hb9'
        clear hb9 hb9' hi9
        go_wp2_with fail
        refine (L65.out _).mono ?_
        rintro e w10 ⟨rfl, hb9⟩
        have hi9 := HI9.out.below hb9
        have hb9' := below_step HB9.out hb9
        clear d0
        have d1 := hi9.cells.2.1
        have d3 := hi9.cells.2.2.2.1
        have HB10 := Lib.hid hb9'
        clear hb9 hb9' hi9
        go_upto_region 17 with (fail)
        simp only [List.append, List.cons_append, List.nil_append, List.append_eq]
        go_wp2_with fail
        go_ret
        exact ⟨rfl, HB10.out⟩
      · exact absurd hr4 hr
      · rw [hD1] at L68
        rw [hA1] at L65
        rw [hD2, hA2]
        clear hD1 hD2 hA1 hA2 hr hr2 hr4
        go_wp2_with fail
        refine (L68.out _).mono ?_
        rintro e w9 ⟨rfl, hb9⟩
        have hi9 := HI8.out.below hb9
        have hb9' := below_step HB8.out hb9
        clear d0 d1 d3
        have d0 := hi9.cells.1
        have HI9 := Lib.hid hi9
        have HB9 := Lib.hid hb9'
        clear hb9 hb9' hi9
        go_wp2_with fail
        refine (L65.out _).mono ?_
        rintro e w10 ⟨rfl, hb9⟩
        have hi9 := HI9.out.below hb9
        have hb9' := below_step HB9.out hb9
        clear d0
        have d1 := hi9.cells.2.1
        have d3 := hi9.cells.2.2.2.1
        have HB10 := Lib.hid hb9'
        clear hb9 hb9' hi9
        go_upto_region 17 with (fail)
        simp only [List.append, List.cons_append, List.nil_append, List.append_eq]
        go_wp2_with fail
        go_ret
        exact ⟨rfl, HB10.out⟩
end Go.Proofs.YtmoplcchiadlpaaDoor.Jc
