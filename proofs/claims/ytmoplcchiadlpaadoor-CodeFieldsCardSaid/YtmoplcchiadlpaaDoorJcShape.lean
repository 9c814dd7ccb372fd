/- code.shape: is an instruction one at all? -/
import Derived.Test.YtmoplcchiadlpaaDoorJcMem
import Derived.Test.YtmoplcchiadlpaaDoorJcOps
import Derived.Test.YtmoplcchiadlpaaDoorShelf
import Derived.WalkLawsBesides
import Derived.WalkSpells
import Derived.Deep.QuietTactic
import Derived.Deep.RegionHeld3
import Derived.Deep.RegionWith
import Derived.Deep.DeepCutAuto
import Derived.Deep.CutBlock
import Derived.BigQuiet
set_option linter.unusedVariables false
set_option linter.unusedSimpArgs false
namespace Go.Proofs.YtmoplcchiadlpaaDoor.Jc
open Go Go.RowKit Go.ChangeMaps Go.Proofs.YtmoplcchiadlpaaDoorW.PrintWords

theorem zero_op (w : World) : (zeroValue 54).run Tryd.prog w = .ok (opVal ([], [])) w := by kernel_rfl

/-- What a look into the table tells. -/
theorem lookup_ops {w : World} {B : Nat} (h : IsMap w B (asEnts tab)) (op : Int) :
    (Instr.lookup 67 (.map (some B)) (.int .i64 op) true).run Tryd.prog w = .ok (.tuple #[.agg #[.string (bs (nameOf op)), .string (bs (fieldsOf op))], .bool (known op)]) w := by
  rw [h.run_lookup_ok Tryd.underlying67 Tryd.underlying3 op _ (zero_op w), look_asEnts]
  unfold nameOf fieldsOf known
  cases info op tab <;> rfl
theorem lookup_ops1 {w : World} {B : Nat} (h : IsMap w B (asEnts tab)) (op : Int) :
    (Instr.lookup 67 (.map (some B)) (.int .i64 op) false).run Tryd.prog w = .ok (.agg #[.string (bs (nameOf op)), .string (bs (fieldsOf op))]) w := by
  rw [h.run_lookup Tryd.underlying67 Tryd.underlying3 op _ (zero_op w), look_asEnts]
  unfold nameOf fieldsOf
  cases info op tab <;> rfl

set_option maxRecDepth 100000 in
set_option maxHeartbeats 4000000 in
theorem shape_any (m : M) (a : Option Addr) (c : Nat) (w : World) (har : ArgsIn w m a c) (htab : Lib.TabIs Tryd.prog w "strings.asciiSpace" .u8 Lib.asciiSpaceTab) :
    Calls Tryd.prog 32 #[.agg (cellsM m a c)] w fun e w' => e = .returned (.tuple #[.agg #[.string (bs (nameOf m.op)), .string (bs (fieldsOf m.op))], .bool (shapeOk m)]) ∧ Below w.heap.size w w' := by
  have HT := Lib.hid htab
  clear htab
  have HR := Lib.hid har
  clear har
  unfold cellsM
  go_enter Tryd.func32, Tryd.ntmps32
  go_wp2_with fail
  go_cut [4, 5] (fun o ok w1 => ∃ b, o = .pointer (some ⟨b, 0, none⟩) ∧ ok = .bool (known m.op) ∧ Aside0 (w1.cell? ⟨b, 0, none⟩ = some (.string (bs (nameOf m.op)))) ∧ Aside0 (w1.cell? ⟨b, 1, none⟩ = some (.string (bs (fieldsOf m.op)))) ∧ Aside0 (w.heap.size + 2 ≤ b) ∧ Aside0 (Below (w.heap.size + 2) ((w.alloc (.cells #[.int .i64 m.op, .int .i64 m.d, .int .i64 m.e, .int .i64 m.a, .int .i64 m.b, .int .i64 m.c, .int .i32 m.imm, .slice a m.args.length c] 24)).alloc (.cells #[.string ⟨#[]⟩, .string ⟨#[]⟩] 54)) w1))
  case first =>
    go_region_held3 (fun w' => w'.cell? ⟨w.heap.size, 0, none⟩ = some (.int .i64 m.op)) (first | go_keep | (rw [World.cell?_setCell_far _ _ _ _ (by simp; try omega), World.cell?_setCell_far _ _ _ _ (by simp; try omega)]; assumption))
      (first | (go_at_call 45; refine (ops_some _ ?_).mono ?_; (repeat (first | exact HT.out | apply tabIs_alloc | apply tabIs_drewN | apply tabIs_drew)); rintro e w1 ⟨B, rfl, hm, hb⟩; (have hk1 : w1.cell? ⟨w.heap.size, 0, none⟩ = some (.int .i64 m.op) := (hb.cell (p := ⟨w.heap.size, 0, none⟩) (by simp; try omega)).trans (by simp [go_sem])); have hl := lookup_ops hm m.op; have hl2 := fun o => lookup_ops (hm.alloc o) m.op; obtain ⟨hc1, hf1⟩ := bcell hb))
    all_goals
      go_wp2_with fail
      go_meet
      case rel =>
        have hsz := hb.size
        try replace hb := below_drewN_left hb
        try replace hb := below_drew_left hb
        refine ⟨_, rfl, rfl, ⟨?_⟩, ⟨?_⟩, ⟨?_⟩, ⟨?_⟩⟩
        · simp [go_sem, *]
        · simp [go_sem, *]
        · simp at hsz; omega
        · first
          | (refine Below.alloc (hb.mono ?_) ?_ _ <;> (simp at hsz ⊢; try omega); done)
          | (refine Below.setCell (Below.setCell (Below.trans (Below.alloc (Below.refl _ _) ?_ _) (hb.mono ?_)) ?_ _) ?_ _ <;> simp; done)
  case rest =>
    obtain ⟨b, rfl, rfl, HN, HF, HG, HB⟩ := hcut
    have e0 : wc.cell? ⟨w.heap.size, 0, none⟩ = some (.int .i64 m.op) := (HB.out.cell (p := ⟨w.heap.size, 0, none⟩) (by simp)).trans (by simp [go_sem])
    have e1 : wc.cell? ⟨w.heap.size, 1, none⟩ = some (.int .i64 m.d) := (HB.out.cell (p := ⟨w.heap.size, 1, none⟩) (by simp)).trans (by simp [go_sem])
    have e2 : wc.cell? ⟨w.heap.size, 2, none⟩ = some (.int .i64 m.e) := (HB.out.cell (p := ⟨w.heap.size, 2, none⟩) (by simp)).trans (by simp [go_sem])
    have e7 : wc.cell? ⟨w.heap.size, 7, none⟩ = some (.slice a m.args.length c) := (HB.out.cell (p := ⟨w.heap.size, 7, none⟩) (by simp)).trans (by simp [go_sem])
    have f0 : wc.cell? ⟨b, 0, none⟩ = some (.string (bs (nameOf m.op))) := HN.out
    have f1 : wc.cell? ⟨b, 1, none⟩ = some (.string (bs (fieldsOf m.op))) := HF.out
    have g0 : wc.cell? ⟨w.heap.size + 1, 0, none⟩ = some (.string ⟨#[]⟩) := (HB.out.cell (p := ⟨w.heap.size + 1, 0, none⟩) (by simp)).trans (by simp [go_sem])
    have g1 : wc.cell? ⟨w.heap.size + 1, 1, none⟩ = some (.string ⟨#[]⟩) := (HB.out.cell (p := ⟨w.heap.size + 1, 1, none⟩) (by simp)).trans (by simp [go_sem])
    have z0 : wc.frozen? ⟨w.heap.size + 1, 0, none⟩ = false := (HB.out.frozen (p := ⟨w.heap.size + 1, 0, none⟩) (by simp)).trans (by simp [go_sem])
    have z1 : wc.frozen? ⟨w.heap.size + 1, 1, none⟩ = false := (HB.out.frozen (p := ⟨w.heap.size + 1, 1, none⟩) (by simp)).trans (by simp [go_sem])
    clear HN HF
    have fin : ∀ x : Bool, shapeOk m = x → Below w.heap.size w ((wc.setCell ⟨w.heap.size + 1, 0, none⟩ (.string (bs (nameOf m.op)))).setCell ⟨w.heap.size + 1, 1, none⟩ (.string (bs (fieldsOf m.op)))) := fun _ _ =>
      ((((((Below.refl _ _).alloc (Nat.le_refl _) _).alloc (by simp) _).trans (HB.out.mono (by omega))).setCell (by simp) _).setCell (by simp) _)
    have FIN := Lib.hid fin
    have BW := Lib.hid (show Below w.heap.size w wc from ((((Below.refl _ _).alloc (Nat.le_refl _) _).alloc (by simp) _).trans (HB.out.mono (by omega))))
    clear fin HB
    have hm := HR.out.reads.2.1
    by_cases h28 : m.op = 28
    · have t28 : (m.op == 28) = true := by simpa using h28
      have hk : known m.op = true := by rw [h28]; exact known_28
      have hs : shapeOk m = (counts 0 (m.args.take m.args.length) && decide (m.args.length ≤ 4) && m.d == 0) := by unfold shapeOk; rw [if_pos h28, hk, List.take_length]; simp
      have HS := Lib.hid hs
      clear hs h28
      go_wp2_with fail
      go_loop [5, 22] (fun ok i => ∃ k : Nat, k ≤ m.args.length ∧ i = .int .i64 k ∧ ok = .bool (counts 0 (m.args.take k))) (fun _ i => m.args.length - (intOf i).toNat)
      case atStart => exact ⟨0, Nat.zero_le _, rfl, by simp [counts, hk]⟩
      case round =>
        obtain ⟨k, hkl, rfl, rfl⟩ := hrel
        by_cases hlt : k < m.args.length
        · have hct := Lib.hid (counts_take m.args k hlt)
          obtain ⟨ad, ha, hcells⟩ := HR.out.reads.2.2 (by omega)
          have hcell := ((HR.out.below (by exact BW.out)).reads.2.2 (by omega))
          obtain ⟨ad', ha', hcs⟩ := hcell
          have hcell := hcs k hlt
          clear hcs hcells ha HR
          subst ha'
          generalize m.args.getD k 0 = x at hcell hct
          cases hb : counts 0 (m.args.take k)
          all_goals
            have HBB := Lib.hid hb
            clear hb
            go_wp2_with fail
            go_round
            case rel => exact ⟨k + 1, by omega, by go_num, by rw [hct.out, HBB.out]; simp⟩
            case measure => simp [intOf]; omega
        · obtain rfl : k = m.args.length := by omega
          rcases Nat.lt_or_ge 4 m.args.length with hl | hl <;> cases hb : counts 0 (m.args.take m.args.length) <;> cases hd : m.d == 0
          all_goals
            go_wp2_with fail
            refine bodyPost_ret (v := .tuple #[.agg #[.string (bs (nameOf m.op)), .string (bs (fieldsOf m.op))], .bool (shapeOk m)]) ?_ rfl ⟨rfl, FIN.out _ rfl⟩
            rw [HS.out, hb, hd]
            simp [results, Tryd.results32, go_sem, f0, f1, g0, g1]
            try omega
    · have t28 : (m.op == 28) = false := by simpa using h28
      by_cases h29 : m.op = 29
      · have t29 : (m.op == 29) = true := by simpa using h29
        have hs : shapeOk m = (m.d == 0 && m.e == 1) := by unfold shapeOk; rw [if_neg h28, if_pos h29, h29, known_29]; simp
        have hk : known m.op = true := by rw [h29]; exact known_29
        have HS := Lib.hid hs
        clear hs h28 h29
        cases hd : m.d == 0 <;> cases he : m.e == 1
        all_goals
          go_wp2_with fail
          refine bodyPost_ret (v := .tuple #[.agg #[.string (bs (nameOf m.op)), .string (bs (fieldsOf m.op))], .bool (shapeOk m)]) ?_ rfl ⟨rfl, FIN.out _ rfl⟩
          rw [HS.out, hd, he]
          simp [results, Tryd.results32, go_sem, f0, f1, g0, g1]
      · have t29 : (m.op == 29) = false := by simpa using h29
        have hc98 : ∀ W : World, Calls Tryd.prog 64 #[.string (bs (fieldsOf m.op)), .string ⟨#[98]⟩] W fun e w' => e = .returned (.bool (decide (numF m.op = 98))) ∧ W = w' := fun W =>
          (Tryd.strings_Contains_one (bs (fieldsOf m.op)) 98 W).mono fun e w' ⟨h1, h2⟩ => ⟨by rw [h1]; exact congrArg (fun x => Ending.returned (.bool x)) (has_b m.op), h2.symm⟩
        have hc116 : ∀ W : World, Calls Tryd.prog 64 #[.string (bs (fieldsOf m.op)), .string ⟨#[116]⟩] W fun e w' => e = .returned (.bool (decide (numF m.op = 116))) ∧ W = w' := fun W =>
          (Tryd.strings_Contains_one (bs (fieldsOf m.op)) 116 W).mono fun e w' ⟨h1, h2⟩ => ⟨by rw [h1]; exact congrArg (fun x => Ending.returned (.bool x)) (has_t m.op), h2.symm⟩
        have HC98 := Lib.hid hc98
        have HC116 := Lib.hid hc116
        clear hc98 hc116
        by_cases hA : numF m.op = 98 ∨ m.op = 50
        · have hk : known m.op = true := by
            rcases hA with h | h
            · exact known_of_num _ (by rw [h]; decide)
            · rw [h]; exact known_50
          have hs : shapeOk m = (m.e == 0 || m.e == 1) := by unfold shapeOk; rw [if_neg h28, if_neg h29, if_pos hA, hk]; simp
          have HS := Lib.hid hs
          have hA' : decide (numF m.op = 98) = true ∨ (decide (numF m.op = 98) = false ∧ (m.op == 50) = true) := by
            by_cases h : numF m.op = 98
            · exact .inl (by simpa using h)
            · exact .inr ⟨by simpa using h, by simpa using hA.resolve_left h⟩
          clear hs h28 h29 hA
          rcases hA' with hA' | ⟨hA', h50⟩ <;> cases he0 : m.e == 0 <;> cases he1 : m.e == 1
          all_goals
            go_wp2_with fail
            refine (HC98.out _).mono ?_
            rintro e w' ⟨rfl, rfl⟩
            go_wp2_with fail
            refine bodyPost_ret (v := .tuple #[.agg #[.string (bs (nameOf m.op)), .string (bs (fieldsOf m.op))], .bool (shapeOk m)]) ?_ rfl ⟨rfl, FIN.out _ rfl⟩
            rw [HS.out, he0, he1]
            simp [results, Tryd.results32, go_sem, f0, f1, g0, g1]
        · have h98 : decide (numF m.op = 98) = false := by simpa using fun h => hA (.inl h)
          have h50 : (m.op == 50) = false := by simpa using fun h => hA (.inr h)
          rw [h98] at HC98
          clear h98
          by_cases h116 : numF m.op = 116
          · have d116 : decide (numF m.op = 116) = true := by simpa using h116
            have hk : known m.op = true := known_of_num _ (by rw [h116]; decide)
            have hs : shapeOk m = (decide (2 ≤ m.args.length) && decide (m.args.length ≤ 65)) := by unfold shapeOk; rw [if_neg h28, if_neg h29, if_neg hA, if_pos h116, hk]; simp
            have HS := Lib.hid hs
            rw [d116] at HC116
            clear hs h28 h29 hA h116 d116
            have h3 : m.args.length < 2 ∨ (2 ≤ m.args.length ∧ m.args.length ≤ 65) ∨ 65 < m.args.length := by omega
            rcases h3 with hl | ⟨hl, hl2⟩ | hl
            all_goals
              go_wp2_with fail
              refine (HC98.out _).mono ?_
              rintro e w' ⟨rfl, rfl⟩
              go_wp2_with fail
              refine (HC116.out _).mono ?_
              rintro e w' ⟨rfl, rfl⟩
              go_wp2_with fail
              refine bodyPost_ret (v := .tuple #[.agg #[.string (bs (nameOf m.op)), .string (bs (fieldsOf m.op))], .bool (shapeOk m)]) ?_ rfl ⟨rfl, FIN.out _ rfl⟩
              rw [HS.out]
              simp [results, Tryd.results32, go_sem, f0, f1, g0, g1]
              try first | omega | (rw [Bool.eq_iff_iff]; simp; omega)
          · have d116 : decide (numF m.op = 116) = false := by simpa using h116
            have hs : shapeOk m = known m.op := by unfold shapeOk; rw [if_neg h28, if_neg h29, if_neg hA, if_neg h116]; simp
            have HS := Lib.hid hs
            rw [d116] at HC116
            clear hs h28 h29 hA h116 d116
            go_wp2_with fail
            refine (HC98.out _).mono ?_
            rintro e w' ⟨rfl, rfl⟩
            go_wp2_with fail
            refine (HC116.out _).mono ?_
            rintro e w' ⟨rfl, rfl⟩
            go_wp2_with fail
            refine bodyPost_ret (v := .tuple #[.agg #[.string (bs (nameOf m.op)), .string (bs (fieldsOf m.op))], .bool (shapeOk m)]) ?_ rfl ⟨rfl, FIN.out _ rfl⟩
            rw [HS.out]
            simp [results, Tryd.results32, go_sem, f0, f1, g0, g1]
end Go.Proofs.YtmoplcchiadlpaaDoor.Jc
