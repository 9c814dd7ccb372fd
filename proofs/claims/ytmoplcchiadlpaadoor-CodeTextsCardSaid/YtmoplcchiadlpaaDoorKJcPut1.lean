/- code.Put's inner function: an instruction's bytes are laid into a variable, or it gives up. -/
import Derived.Test.YtmoplcchiadlpaaDoorKMJcOps
import Derived.Test.YtmoplcchiadlpaaDoorKMJc1
import Derived.Deep.DeepCutAuto
import Derived.Deep.CutBlock
set_option linter.unusedVariables false
set_option linter.unusedSimpArgs false
namespace Go.Proofs.YtmoplcchiadlpaaDoor.Jc
open Go Go.RowKit Go.ChangeMaps Go.Proofs.YtmoplcchiadlpaaDoorW.PrintWords

/-- What the inner function of Put comes to. -/
def PutPost (m : M) (bo : Nat) (w : World) (e : Ending) (w' : World) : Prop :=
  w.grownBy w' (some bo) ∧ match put m with
    | .ok s => e = .returned (.tuple #[]) ∧ w'.heap[bo]? = some (.cells #[.string (bs s)] 9 (0, 0))
    | .error k => e = .panicked [{ v := trouble k, recovered := false }] ∧ ∃ s, w'.heap[bo]? = some (.cells #[.string s] 9 (0, 0))

theorem post_store {m : M} {bo : Nat} {w wr wq : World} {s0 : ByteArray} {s : List UInt8} {X : ByteArray} (hp : put m = .ok s) (hX : X = bs s) (HO : wr.heap[bo]? = some (.cells #[.string s0] 9 (0, 0))) (HG : w.grownBy wr (some bo)) (hq : Below wr.heap.size wr wq) :
    PutPost m bo w (.returned (.tuple #[])) (wq.setCell ⟨bo, 0, none⟩ (.string X)) := by
  unfold PutPost
  rw [hp, hX]
  exact ⟨grown_set (HG.trans (grown_below hq _)) 0 _, rfl, set_blk1 ((hq.block bo (blk_lt' HO)).trans HO)⟩
theorem post_ok {m : M} {bo : Nat} {w wr : World} {s : List UInt8} (hp : put m = .ok s) (HO : wr.heap[bo]? = some (.cells #[.string (bs s)] 9 (0, 0))) (HG : w.grownBy wr (some bo)) :
    PutPost m bo w (.returned (.tuple #[])) wr := by
  unfold PutPost
  rw [hp]
  exact ⟨HG, rfl, HO⟩
theorem post_no {m : M} {bo : Nat} {w wr : World} {s : ByteArray} {k : Int} (hp : put m = .error k) (HO : wr.heap[bo]? = some (.cells #[.string s] 9 (0, 0))) (HG : w.grownBy wr (some bo)) :
    PutPost m bo w (.panicked [{ v := trouble k, recovered := false }]) wr := by
  unfold PutPost
  rw [hp]
  exact ⟨HG, rfl, s, HO⟩

set_option maxRecDepth 100000 in
set_option maxHeartbeats 4000000 in
theorem put1_any (m : M) (hin : InR m) (a : Option Addr) (c : Nat) (bi bo : Nat) (s0 : ByteArray) (w : World) (hi : w.heap[bi]? = some (.cells (cellsM m a c) 24 (0, 0))) (ho : w.heap[bo]? = some (.cells #[.string s0] 9 (0, 0)))
    (hne : bi ≠ bo) (har : ∀ W, w.grownBy W (some bo) → ArgsIn W m a c) (htab : Lib.TabIs Tryd.prog w "strings.asciiSpace" .u8 Lib.asciiSpaceTab) :
    Calls Tryd.prog 31 #[.pointer (some ⟨bi, 0, none⟩), .pointer (some ⟨bo, 0, none⟩)] w (PutPost m bo w) := by
  have e0 : w.cell? ⟨bi, 0, none⟩ = some (.int .i64 m.op) := (cell_blk hi 0).trans rfl
  have e1 : w.cell? ⟨bi, 1, none⟩ = some (.int .i64 m.d) := (cell_blk hi 1).trans rfl
  have e2 : w.cell? ⟨bi, 2, none⟩ = some (.int .i64 m.e) := (cell_blk hi 2).trans rfl
  have e3 : w.cell? ⟨bi, 3, none⟩ = some (.int .i64 m.a) := (cell_blk hi 3).trans rfl
  have e4 : w.cell? ⟨bi, 4, none⟩ = some (.int .i64 m.b) := (cell_blk hi 4).trans rfl
  have e5 : w.cell? ⟨bi, 5, none⟩ = some (.int .i64 m.c) := (cell_blk hi 5).trans rfl
  have e6 : w.cell? ⟨bi, 6, none⟩ = some (.int .i32 m.imm) := (cell_blk hi 6).trans rfl
  have e7 : w.cell? ⟨bi, 7, none⟩ = some (.slice a m.args.length c) := (cell_blk hi 7).trans rfl
  have hwi : IntKind.i64.wrap m.imm = m.imm := wrap_i64 (by have := hin.imm; omega) (by have := hin.imm; omega)
  have HWI := Lib.hid hwi
  have HIN := Lib.hid hin
  clear hwi hin
  have HI := Lib.hid hi
  have HO := Lib.hid ho
  have HAR := Lib.hid har
  have HT := Lib.hid htab
  clear hi ho har htab
  go_enter Tryd.func31, Tryd.ntmps31
  go_wp2_with fail
  refine (shape_any m a c w (HAR.out _ (World.grownBy.refl w _)) HT.out).mono ?_
  rintro e w1 ⟨rfl, hb⟩
  have HB := Lib.hid hb
  clear hb e0 e1 e2 e3 e4 e5 e6 e7
  cases hsh : shapeOk m
  · have hput : put m = .error 30 := by unfold put; rw [if_pos hsh]
    have HP := Lib.hid hput
    clear hput
    go_wp2_with fail
    refine (must_no 30 _).mono ?_
    rintro e w2 ⟨rfl, rfl⟩
    go_wp2_with fail
    refine ⟨rfl, ?_⟩
    unfold PutPost
    rw [HP.out]
    exact ⟨grown_alloc (grown_below HB.out _) _, rfl, s0, (heap_alloc_old _ _ (by have := HB.out.size; have := blk_lt' HO.out; omega)).trans ((HB.out.block _ (blk_lt' HO.out)).trans HO.out)⟩
  · go_wp2_with fail
    refine (must_ok 30 _).mono ?_
    rintro e w2 ⟨rfl, rfl⟩
    go_wp2_with fail
    refine (split_any (fieldsOf m.op) (by have := fields_short m.op; omega) _).mono ?_
    rintro e w2 ⟨rfl, rfl⟩
    have hbi := blk_lt' HI.out
    have hbo := blk_lt' HO.out
    have hsz := HB.out.size
    have HG2 := Lib.hid (grown_alloc (grown_below HB.out (some bo)) (.cells #[.string (bs (nameOf m.op)), .string (bs (fieldsOf m.op))] 54))
    have HI2 := Lib.hid ((heap_alloc_old w1 (.cells #[.string (bs (nameOf m.op)), .string (bs (fieldsOf m.op))] 54) (by omega)).trans ((HB.out.block _ hbi).trans HI.out))
    have HO2 := Lib.hid ((heap_alloc_old w1 (.cells #[.string (bs (nameOf m.op)), .string (bs (fieldsOf m.op))] 54) (by omega)).trans ((HB.out.block _ hbo).trans HO.out))
    clear HB HI HO HT hsz hbi hbo
    generalize w1.alloc (.cells #[.string (bs (nameOf m.op)), .string (bs (fieldsOf m.op))] 54) = W at HG2 HI2 HO2 ⊢
    have e0 : W.cell? ⟨bi, 0, none⟩ = some (.int .i64 m.op) := (cell_blk HI2.out 0).trans rfl
    have e2 : W.cell? ⟨bi, 2, none⟩ = some (.int .i64 m.e) := (cell_blk HI2.out 2).trans rfl
    have o0 : W.cell? ⟨bo, 0, none⟩ = some (.string s0) := (cell_blk HO2.out 0).trans rfl
    have z0 : W.frozen? ⟨bo, 0, none⟩ = false := froz_blk HO2.out 0
    obtain ⟨ok1, ok2⟩ := op_known m.op (by unfold shapeOk at hsh; simp only [Bool.and_eq_true] at hsh; exact hsh.1)
    have HSH := Lib.hid hsh
    clear hsh
    have hfar0 : (((numF m.op).toNat : Int) == 98) = true ∧ (m.e == 1) = true ∧ farOf m = true ∨ (((numF m.op).toNat : Int) == 98) = true ∧ (m.e == 1) = false ∧ farOf m = false ∨ (((numF m.op).toNat : Int) == 98) = false ∧ farOf m = false := by
      unfold farOf
      by_cases h : numF m.op = 98
      · cases he : m.e == 1
        · exact .inr (.inl ⟨by rw [h]; rfl, rfl, by simp [h]⟩)
        · exact .inl ⟨by rw [h]; rfl, rfl, by simp [h]⟩
      · refine .inr (.inr ⟨?_, by simp [h]⟩)
        rw [beq_eq_false_iff_ne]
        intro e
        exact h (UInt8.toNat_inj.1 (by have : (98 : UInt8).toNat = 98 := rfl; omega))
    have HFAR := Lib.hid hfar0
    clear hfar0
    rw [show (splitF (fieldsOf m.op)).2 = numF m.op from rfl, show (splitF (fieldsOf m.op)).1 = regsF m.op from rfl]
    go_upto_region 3 with (fail)
    go_cut [6] (fun f w' => f = .bool (farOf m) ∧ W = w')
    case first =>
      rcases HFAR.out with ⟨h1, h2, h3⟩ | ⟨h1, h2, h3⟩ | ⟨h1, h3⟩
      all_goals
        have H3 := Lib.hid h3
        clear h3
        go_wp2_with fail
        go_meet
        case rel => exact ⟨by rw [H3.out], rfl⟩
    case rest =>
      obtain ⟨rfl, rfl⟩ := hcut
      clear HFAR
      go_upto_if 35 with (fail)
      go_cut [7] (fun f w' => (∃ n : Int, f = .int .i64 n ∧ 1 ≤ n ∧ n ≤ 200 ∧ Aside0 (numB n 1 = [headB m])) ∧ W = w')
      case first =>
        go_wp2_with fail
        all_goals
          go_meet
          case rel => exact ⟨⟨_, rfl, by omega, by omega, ⟨by unfold headB; simp [numB, *]⟩⟩, rfl⟩
      obtain ⟨⟨n, rfl, hn1, hn2, HH0⟩, rfl⟩ := hcut
      go_wp2_with fail
      refine (number_any _ 1 (by omega) _).mono ?_
      rintro e w2 ⟨rfl, hb2⟩
      rw [HH0.out]
      clear HH0
      have HB2 := Lib.hid hb2
      clear hb2
      have hG3 := HG2.out.trans (grown_below HB2.out (some bo))
      have HI3 := Lib.hid ((HB2.out.block _ (blk_lt' HI2.out)).trans HI2.out)
      have ho3 := (HB2.out.block _ (blk_lt' HO2.out)).trans HO2.out
      have o1 : w2.cell? ⟨bo, 0, none⟩ = some (.string s0) := (cell_blk ho3 0).trans rfl
      have z1 : w2.frozen? ⟨bo, 0, none⟩ = false := froz_blk ho3 0
      have HO3 := Lib.hid ho3
      have HG3 := Lib.hid hG3
      clear HB2 HI2 HO2 HG2 ho3 hG3 e0 e2 o0 z0
      go_wp2_with fail
      have hL := regs_short m.op
      have hsz : (bs (regsF m.op)).size = (regsF m.op).length := by simp [ByteArray.size]
      go_loopw [8] (fun i wr => ∃ k : Nat, i = .int .i64 (k : Int) ∧ k ≤ (regsF m.op).length + 1 ∧ Aside0 (k % 2 = 0) ∧ Aside0 (((valsM m).take k).all regOk = true) ∧ Aside0 (wr.heap[bo]? = some (.cells #[.string (bs (headB m :: pairs ((valsM m).take k)))] 9 (0, 0))) ∧
        Aside0 (wr.heap[bi]? = some (.cells (cellsM m a c) 24 (0, 0))) ∧ Aside0 (w.grownBy wr (some bo))) (fun i _ => (regsF m.op).length + 2 - (intOf i).toNat)
      case atStart => exact ⟨0, rfl, by omega, ⟨rfl⟩, ⟨rfl⟩, ⟨set_blk1 HO3.out⟩, ⟨(grown_blk HI3.out (grown_set (World.grownBy.refl _ _) 0 _) (by simpa using hne))⟩, ⟨grown_set HG3.out 0 _⟩⟩
      case round =>
        clear HI3 HO3 HG3 o1 z1
        obtain ⟨k, rfl, hk, HE, HA, HO, HI, HG⟩ := hrel
        by_cases hlt : k < (regsF m.op).length
        · have hk2 : k < (bs (regsF m.op)).size := by rw [hsz]; exact hlt
          have hx : isReg ((bs (regsF m.op))[k]'hk2) = true := regs_are m.op _ (List.getElem_mem hlt)
          have hvx : (valsM m).getD k 0 = regVal m ((bs (regsF m.op))[k]'hk2) := valsM_at m k hlt
          obtain ⟨off, hoff, hcell⟩ := reg_off m a c _ hx
          have hc1 : wr.cell? ⟨bi, off.toNat, none⟩ = some (.int .i64 (regVal m ((bs (regsF m.op))[k]'hk2))) := (cell_blk HI.out _).trans hcell
          have HOFF := Lib.hid hoff
          have HVX := Lib.hid hvx
          clear hoff hvx hx hcell
          obtain ⟨A, hA1⟩ : ∃ A, bs (headB m :: pairs ((valsM m).take k)) = A := ⟨_, rfl⟩
          have hs1 := head_size m k
          rw [hA1] at hs1
          have o0 : wr.cell? ⟨bo, 0, none⟩ = some (.string A) := by rw [← hA1]; exact (cell_blk HO.out 0).trans rfl
          have HA1 := Lib.hid hA1
          clear hA1
          have z0 : wr.frozen? ⟨bo, 0, none⟩ = false := froz_blk HO.out 0
          go_wp2_with fail
          refine (register_at bi _ off HOFF.out _).mono ?_
          rintro e w3 ⟨rfl, rfl⟩
          generalize regVal m ((bs (regsF m.op))[k]'hk2) = X at hc1 HVX
          by_cases hlast : k + 1 < (regsF m.op).length
          · have hk3 : k + 1 < (bs (regsF m.op)).size := by rw [hsz]; exact hlast
            have hx : isReg ((bs (regsF m.op))[k + 1]'hk3) = true := regs_are m.op _ (List.getElem_mem hlast)
            have hvx : (valsM m).getD (k + 1) 0 = regVal m ((bs (regsF m.op))[k + 1]'hk3) := valsM_at m (k + 1) hlast
            obtain ⟨off2, hoff, hcell⟩ := reg_off m a c _ hx
            have hc2 : wr.cell? ⟨bi, off2.toNat, none⟩ = some (.int .i64 (regVal m ((bs (regsF m.op))[k + 1]'hk3))) := (cell_blk HI.out _).trans hcell
            have HOFF2 := Lib.hid hoff
            have HVY := Lib.hid hvx
            clear hoff hvx hx hcell
            go_wp2_with fail
            refine (register_at bi _ off2 HOFF2.out _).mono ?_
            rintro e w3 ⟨rfl, rfl⟩
            generalize regVal m ((bs (regsF m.op))[k + 1]'hk3) = Y at hc2 HVY
            by_cases hok : 0 ≤ X ∧ X < 16 ∧ 0 ≤ Y ∧ Y < 16
            · obtain ⟨hx0, hx1, hy0, hy1⟩ := hok
              go_wp2_with fail
              refine (must_ok 31 _).mono ?_
              rintro e w3 ⟨rfl, rfl⟩
              go_wp2_with fail
              have hbo := blk_lt' HO.out
              have hB0 : (bs (numB (16 * X + Y) 1)).size ≤ 100 := by rw [bs_size, numB_length]; omega
              have hw1 : IntKind.i64.wrap (16 * X) = 16 * X := wrap_i64 (by omega) (by omega)
              have hw2 : IntKind.i64.wrap (16 * X + Y) = 16 * X + Y := wrap_i64 (by omega) (by omega)
              obtain ⟨B, hB⟩ : ∃ B, bs (numB (16 * X + Y) 1) = B := ⟨_, rfl⟩
              have heq : A ++ B = bs (headB m :: pairs ((valsM m).take (k + 2))) := by
                rw [← HA1.out, ← hB, bs_append, pairs_two _ _ (by rw [valsM_length]; omega) HE.out, HVX.out, HVY.out]; rfl
              have HEQ := Lib.hid heq
              rw [hB] at hB0
              have HB1 := Lib.hid hB
              have hcat : ¬ (9223372036854775807 < A.size + B.size) := by omega
              clear heq hB
              go_region_law (first | (go_simp; go_at_call 35; refine (number_any _ 1 (by omega) _).mono ?_; rintro e w3 ⟨rfl, hb3⟩; rw [HB1.out]; (have q1 : w3.cell? ⟨bo, 0, none⟩ = some (.string A) := (hb3.cell (p := ⟨bo, 0, none⟩) (by simpa using hbo)).trans o0); (have q2 : w3.frozen? ⟨bo, 0, none⟩ = false := (hb3.frozen (p := ⟨bo, 0, none⟩) (by simpa using hbo)).trans z0)))
              all_goals
                go_wp2_with fail
                go_roundw
                case rel =>
                  refine ⟨k + 2, by go_num, by omega, ⟨by have := HE.out; omega⟩, ⟨?_⟩, ⟨?_⟩, ⟨?_⟩, ⟨?_⟩⟩
                  · rw [all_take_snoc _ _ (by rw [valsM_length]; omega), all_take_snoc _ _ (by rw [valsM_length]; omega), HA.out, HVX.out, HVY.out]; simp [regOk, hx0, hx1, hy0, hy1]
                  · rw [← HEQ.out]
                    exact set_blk1 ((hb3.block bo (by simpa using hbo)).trans HO.out)
                  · exact grown_blk ((hb3.block bi (by simpa using blk_lt' HI.out)).trans HI.out) (grown_set (World.grownBy.refl _ _) 0 _) (by simpa using hne)
                  · exact grown_set (HG.out.trans (grown_below (by first | exact below_drewN_left hb3 | exact below_drew_left hb3 | exact hb3) _)) 0 _
                case measure => simp [intOf]; omega
            · rcases not_ok hok with h1 | ⟨h1, h2⟩ | ⟨h1, h2, h3⟩ | ⟨h1, h2, h3, h4⟩
              all_goals
                have hbad : put m = .error 31 := put_reg m (k + 2) HSH.out (by
                  rw [all_take_snoc _ _ (by rw [valsM_length]; omega), all_take_snoc _ _ (by rw [valsM_length]; omega), HA.out, HVX.out, HVY.out]
                  simp only [regOk, *]
                  simp)
                have HP := Lib.hid hbad
                clear hbad hok
                go_wp2_with fail
                refine (must_no 31 _).mono ?_
                rintro e w3 ⟨rfl, rfl⟩
                go_wp2_with fail
                refine ⟨rfl, ?_⟩
                unfold PutPost
                rw [HP.out]
                exact ⟨HG.out, rfl, _, HO.out⟩
          · by_cases hok : 0 ≤ X ∧ X < 16
            · obtain ⟨hx0, hx1⟩ := hok
              go_wp2_with fail
              refine (must_ok 31 _).mono ?_
              rintro e w3 ⟨rfl, rfl⟩
              go_wp2_with fail
              have hbo := blk_lt' HO.out
              have hB0 : (bs (numB (16 * X) 1)).size ≤ 100 := by rw [bs_size, numB_length]; omega
              have hw1 : IntKind.i64.wrap (16 * X) = 16 * X := wrap_i64 (by omega) (by omega)
              obtain ⟨B, hB⟩ : ∃ B, bs (numB (16 * X) 1) = B := ⟨_, rfl⟩
              have heq : A ++ B = bs (headB m :: pairs ((valsM m).take (k + 2))) := by
                rw [← HA1.out, ← hB, bs_append, pairs_last _ _ (by rw [valsM_length]; omega) HE.out, HVX.out, Int.add_zero]; rfl
              have HEQ := Lib.hid heq
              rw [hB] at hB0
              have HB1 := Lib.hid hB
              have hcat : ¬ (9223372036854775807 < A.size + B.size) := by omega
              clear heq hB
              go_region_law (first | (go_simp; go_at_call 35; refine (number_any _ 1 (by omega) _).mono ?_; rintro e w3 ⟨rfl, hb3⟩; rw [HB1.out]; (have q1 : w3.cell? ⟨bo, 0, none⟩ = some (.string A) := (hb3.cell (p := ⟨bo, 0, none⟩) (by simpa using hbo)).trans o0); (have q2 : w3.frozen? ⟨bo, 0, none⟩ = false := (hb3.frozen (p := ⟨bo, 0, none⟩) (by simpa using hbo)).trans z0)))
              all_goals
                go_wp2_with fail
                go_roundw
                case rel =>
                  refine ⟨k + 2, by go_num, by omega, ⟨by have := HE.out; omega⟩, ⟨?_⟩, ⟨?_⟩, ⟨?_⟩, ⟨?_⟩⟩
                  · rw [List.take_of_length_le (by rw [valsM_length]; omega), ← List.take_of_length_le (show (valsM m).length ≤ k + 1 by rw [valsM_length]; omega), all_take_snoc _ _ (by rw [valsM_length]; omega), HA.out, HVX.out]; simp [regOk, hx0, hx1]
                  · rw [← HEQ.out]
                    exact set_blk1 ((hb3.block bo (by simpa using hbo)).trans HO.out)
                  · exact grown_blk ((hb3.block bi (by simpa using blk_lt' HI.out)).trans HI.out) (grown_set (World.grownBy.refl _ _) 0 _) (by simpa using hne)
                  · exact grown_set (HG.out.trans (grown_below (by first | exact below_drewN_left hb3 | exact below_drew_left hb3 | exact hb3) _)) 0 _
                case measure => simp [intOf]; omega
            · have hok2 : decide (0 ≤ X) = false ∨ (decide (0 ≤ X) = true ∧ decide (X < 16) = false) := by
                simp only [decide_eq_true_eq, decide_eq_false_iff_not]
                omega
              rcases hok2 with h1 | ⟨h1, h2⟩
              all_goals
                have hbad : put m = .error 31 := put_reg m (k + 1) HSH.out (by
                  rw [all_take_snoc _ _ (by rw [valsM_length]; omega), HA.out, HVX.out]
                  simp only [regOk, *]
                  simp)
                have HP := Lib.hid hbad
                clear hbad hok
                go_wp2_with fail
                refine (must_no 31 _).mono ?_
                rintro e w3 ⟨rfl, rfl⟩
                go_wp2_with fail
                refine ⟨rfl, ?_⟩
                unfold PutPost
                rw [HP.out]
                exact ⟨HG.out, rfl, _, HO.out⟩
        · have hfull : (valsM m).take k = valsM m := List.take_of_length_le (by rw [valsM_length]; omega)
          have hp := put_full m HSH.out (by rw [← hfull]; exact HA.out)
          have hoo := HO.out
          rw [hfull] at hoo
          obtain ⟨A, hA1⟩ : ∃ A, bs (headB m :: pairs (valsM m)) = A := ⟨_, rfl⟩
          have hs1 := full_size m
          rw [hA1] at hoo hs1
          have o0 : wr.cell? ⟨bo, 0, none⟩ = some (.string A) := (cell_blk hoo 0).trans rfl
          have z0 : wr.frozen? ⟨bo, 0, none⟩ = false := froz_blk hoo 0
          have hbo := blk_lt' hoo
          have hbi := blk_lt' HI.out
          have e2 : wr.cell? ⟨bi, 2, none⟩ = some (.int .i64 m.e) := (cell_blk HI.out 2).trans rfl
          have e6 : wr.cell? ⟨bi, 6, none⟩ = some (.int .i32 m.imm) := (cell_blk HI.out 6).trans rfl
          have e7 : wr.cell? ⟨bi, 7, none⟩ = some (.slice a m.args.length c) := (cell_blk HI.out 7).trans rfl
          have hwi := HWI.out
          have HBT := Lib.hid (Below.refl wr.heap.size wr)
          have HA1 := Lib.hid hA1
          have HP := Lib.hid hp
          have HOO := Lib.hid hoo
          clear hA1 hp hoo hfull HO HWI HE
          rcases nums_are m.op with h | h | h | h | h | h5
          · have hf : ((numF m.op).toNat : Int) = 0 := by rw [h]; rfl
            have hn : numPart m = .ok [] := by unfold numPart; rw [h]; rfl
            have HN := Lib.hid hn
            clear h hn
            go_wp2_with fail
            go_end0
            exact post_ok (by rw [HP.out, HN.out]) (by rw [HOO.out, ← HA1.out, List.append_nil]) HG.out
          · have hf : ((numF m.op).toNat : Int) = 110 := by rw [h]; rfl
            have hn : numPart m = .ok (numB m.args.length 1 ++ numB m.imm 4) := by unfold numPart; rw [h]; rfl
            have h4 := shape_110 m HSH.out h
            obtain ⟨B, hB⟩ : ∃ B, bs (numB m.args.length (1 : Int).toNat) = B := ⟨_, rfl⟩
            obtain ⟨C, hC⟩ : ∃ C, bs (numB m.imm (4 : Int).toNat) = C := ⟨_, rfl⟩
            have hsb : B.size ≤ 4 := by rw [← hB, bs_size, numB_length]; decide
            have hsc : C.size ≤ 4 := by rw [← hC, bs_size, numB_length]; decide
            have hX : A ++ (B ++ C) = bs (headB m :: (pairs (valsM m) ++ (numB m.args.length 1 ++ numB m.imm 4))) := by rw [← HA1.out, ← hB, ← hC, bs_append, bs_append]; rfl
            have hc1 : ¬ (9223372036854775807 < B.size + C.size) := by omega
            have hc2 : ¬ (9223372036854775807 < A.size + (B.size + C.size)) := by omega
            have HB1 := Lib.hid hB
            have HC1 := Lib.hid hC
            have HX := Lib.hid hX
            have HN := Lib.hid hn
            clear h hn hB hC hX
            go_wp2_with fail
            go_region_law (first | (go_simp; go_at_call 35; refine (number_i _ _ (by decide) _).mono ?_; rintro e wq ⟨rfl, hq⟩; (first | rw [HB1.out] | rw [HC1.out]); (have HBT := Lib.hid (below_step HBT.out (by first | exact below_drewN_left hq | exact below_drew_left hq | exact hq))); (obtain ⟨hk1, hk2⟩ := bcell HBT.out); clear hq))
            all_goals
              go_wp2_with fail
              go_end0
              exact post_store (by rw [HP.out, HN.out]) HX.out HOO.out HG.out HBT.out
          · have hf : ((numF m.op).toNat : Int) = 101 := by rw [h]; rfl
            have hn : numPart m = .ok (numB m.e 1) := by unfold numPart; rw [h]; rfl
            obtain ⟨B, hB⟩ : ∃ B, bs (numB m.e (1 : Int).toNat) = B := ⟨_, rfl⟩
            have hsb : B.size ≤ 4 := by rw [← hB, bs_size, numB_length]; decide
            have hX : A ++ B = bs (headB m :: (pairs (valsM m) ++ numB m.e 1)) := by rw [← HA1.out, ← hB, bs_append]; rfl
            have hc1 : ¬ (9223372036854775807 < A.size + B.size) := by omega
            have HB1 := Lib.hid hB
            have HX := Lib.hid hX
            have HN := Lib.hid hn
            clear h hn hB hX
            go_wp2_with fail
            go_region_law (first | (go_simp; go_at_call 35; refine (number_i _ _ (by decide) _).mono ?_; rintro e wq ⟨rfl, hq⟩; (rw [HB1.out]); (have HBT := Lib.hid (below_step HBT.out (by first | exact below_drewN_left hq | exact below_drew_left hq | exact hq))); (obtain ⟨hk1, hk2⟩ := bcell HBT.out); clear hq))
            all_goals
              go_wp2_with fail
              go_end0
              exact post_store (by rw [HP.out, HN.out]) HX.out HOO.out HG.out HBT.out
          · have q0 : (((numF m.op).toNat : Int) == 0) = false := by rw [h]; rfl
            have q1 : (((numF m.op).toNat : Int) == 110) = false := by rw [h]; rfl
            have q2 : (((numF m.op).toNat : Int) == 101) = false := by rw [h]; rfl
            have q3 : (((numF m.op).toNat : Int) == 116) = true := by rw [h]; rfl
            have hfx : ∀ x : Int, fitsB x (numF m.op) (farOf m) 61 = fitsB x 116 false 61 := fun x => by rw [h]; unfold farOf; rw [h]; rfl
            have HFX := Lib.hid hfx
            clear hfx
            have hn : numPart m = (match tableB m.args with | .ok s => .ok (numB m.args.length 1 ++ s) | .error e => .error e) := by unfold numPart; rw [h]; rfl
            have h65 := shape_116 m HSH.out h
            obtain ⟨B, hB⟩ : ∃ B, bs (numB m.args.length (1 : Int).toNat) = B := ⟨_, rfl⟩
            have hsb : B.size ≤ 4 := by rw [← hB, bs_size, numB_length]; decide
            have hc1 : ¬ (9223372036854775807 < A.size + B.size) := by omega
            have HB1 := Lib.hid hB
            have HN := Lib.hid hn
            clear h hn hB
            go_upto_region 25 with (fail)
            go_cut [] (fun w' => Aside0 (w'.heap[bo]? = some (.cells #[.string (A ++ B)] 9 (0, 0))) ∧ Aside0 (w'.heap[bi]? = some (.cells (cellsM m a c) 24 (0, 0))) ∧ Aside0 (w.grownBy w' (some bo)))
            case first =>
              go_region_law (first | (go_simp; go_at_call 35; refine (number_i _ _ (by decide) _).mono ?_; rintro e wq ⟨rfl, hq⟩; (rw [HB1.out]); (have HBT := Lib.hid (below_step HBT.out (by first | exact below_drewN_left hq | exact below_drew_left hq | exact hq))); (obtain ⟨hk1, hk2⟩ := bcell HBT.out); clear hq))
              all_goals
                go_wp2_with fail
                go_meet
                case rel => exact ⟨⟨set_blk1 ((HBT.out.block bo hbo).trans HOO.out)⟩, ⟨grown_blk ((HBT.out.block bi hbi).trans HI.out) (grown_set (World.grownBy.refl _ _) 0 _) (by simpa using hne)⟩, ⟨grown_set (HG.out.trans (grown_below HBT.out _)) 0 _⟩⟩
            obtain ⟨HO4, HI4, HG4⟩ := hcut
            have f7 : wc.cell? ⟨bi, 7, none⟩ = some (.slice a m.args.length c) := (cell_blk HI4.out 7).trans rfl
            obtain ⟨L, hL⟩ : ∃ L : List UInt8, L = headB m :: (pairs (valsM m) ++ numB m.args.length 1) := ⟨_, rfl⟩
            have hAB : A ++ B = bs (L ++ []) := by rw [← HA1.out, ← HB1.out, hL, bs_append, List.append_nil]; rfl
            have hLs : L.length ≤ 104 := by
              have h1 : (A ++ B).size ≤ 104 := by rw [ByteArray.size_append]; omega
              rw [hAB, bs_size, List.append_nil] at h1
              exact h1
            have HL := Lib.hid hL
            have HO5 := HO4.out
            rw [hAB] at HO5
            have HO6 := Lib.hid HO5
            clear o0 z0 e2 e6 e7 HBT HOO HI HG HO4 HO5 hAB hL HB1 HA1 hc1 hsb hs1 q0 q1 q2 q3
            go_wp2_with fail
            go_loopw [128] (fun i wr => ∃ (j : Nat) (s : List UInt8), i = .int .i64 (j : Int) ∧ j ≤ m.args.length ∧ Aside0 (tableB (m.args.take j) = .ok s) ∧ Aside0 (wr.heap[bo]? = some (.cells #[.string (bs (L ++ s))] 9 (0, 0))) ∧
              Aside0 (wr.heap[bi]? = some (.cells (cellsM m a c) 24 (0, 0))) ∧ Aside0 (w.grownBy wr (some bo))) (fun i _ => m.args.length - (intOf i).toNat)
            case atStart => exact ⟨0, [], rfl, by omega, ⟨rfl⟩, ⟨HO6.out⟩, HI4, HG4⟩
            case round =>
              clear HI4 HG4 HO6 f7
              obtain ⟨j, s, rfl, hj, HTB, HO, HI, HG⟩ := hrel
              by_cases hlt : j < m.args.length
              · obtain ⟨ad, ha, hcs⟩ := (HAR.out _ HG.out).reads.2.2 (by omega)
                have hcell := hcs j hlt
                have HAX := Lib.hid ha
                clear hcs
                have hst := tableB_len _ _ HTB.out
                rw [List.length_take] at hst
                obtain ⟨C, hC⟩ : ∃ C, bs (L ++ s) = C := ⟨_, rfl⟩
                have hCs : C.size ≤ 400 := by rw [← hC, bs_size, List.length_append]; omega
                have hoo := HO.out
                rw [hC] at hoo
                have o0 : wr.cell? ⟨bo, 0, none⟩ = some (.string C) := (cell_blk hoo 0).trans rfl
                have z0 : wr.frozen? ⟨bo, 0, none⟩ = false := froz_blk hoo 0
                have hbo := blk_lt' hoo
                have hbi := blk_lt' HI.out
                have HOO := Lib.hid hoo
                have HC := Lib.hid hC
                have HBT := Lib.hid (Below.refl wr.heap.size wr)
                clear hoo hC HO hst
                subst ha
                cases hft : fitsB (m.args.getD j 0) 116 false 61 with
                | ok t =>
                  obtain ⟨B, hB⟩ : ∃ B, bs t = B := ⟨_, rfl⟩
                  have hsb : B.size ≤ 4 := by rw [← hB]; exact fitsB_size hft
                  have hX : C ++ B = bs (L ++ (s ++ t)) := by rw [← HC.out, ← hB, bs_append, List.append_assoc]
                  have hc1 : ¬ (9223372036854775807 < C.size + B.size) := by omega
                  have HB1 := Lib.hid hB
                  have HX := Lib.hid hX
                  have HTM := Lib.hid (tableB_more m.args j hlt HTB.out hft)
                  have hft2 : fitsB (m.args.getD j 0) (numF m.op) (farOf m) 61 = .ok t := by rw [HFX.out]; exact hft
                  have HF := Lib.hid (fun W => fits_is hft2 W)
                  clear hft hft2 hB hX
                  generalize m.args.getD j 0 = x at hcell HF
                  go_wp2_with fail
                  go_region_law (first | (go_simp; go_at_call 37; refine (HF.out _).mono ?_; rintro e wq ⟨rfl, hq⟩; rw [HB1.out]; (have HBT := Lib.hid (below_step HBT.out (by first | exact below_drewN_left hq | exact below_drew_left hq | exact hq))); (obtain ⟨hk1, hk2⟩ := bcell HBT.out); clear hq))
                  all_goals
                    go_wp2_with fail
                    go_roundw
                    case rel => exact ⟨j + 1, s ++ t, by go_num, by omega, ⟨HTM.out⟩, ⟨by rw [← HX.out]; exact set_blk1 ((HBT.out.block bo (by simpa using hbo)).trans HOO.out)⟩, ⟨grown_blk ((HBT.out.block bi (by simpa using hbi)).trans HI.out) (grown_set (World.grownBy.refl _ _) 0 _) (by simpa using hne)⟩, ⟨grown_set (HG.out.trans (grown_below HBT.out _)) 0 _⟩⟩
                    case measure => simp [intOf]; omega
                | error e =>
                  obtain rfl := (fitsB_no hft).2
                  have hpo : PutPost m bo w (.panicked [{ v := trouble 61, recovered := false }]) wr.drew := post_no (by rw [HP.out, HN.out, tableB_stop m.args j hlt HTB.out hft]) HOO.out (grown_drew HG.out)
                  have HPO := Lib.hid hpo
                  have hc1 : ¬ (9223372036854775807 < C.size) := by omega
                  have hft2 : fitsB (m.args.getD j 0) (numF m.op) (farOf m) 61 = .error 61 := by rw [HFX.out]; exact hft
                  have HF := Lib.hid (fun W => fits_dies hft2 W)
                  clear hft hft2 hpo
                  generalize m.args.getD j 0 = x at hcell HF
                  go_wp2_with fail
                  go_region_law (first | (go_simp; go_at_call 37; refine (HF.out _).mono ?_; rintro e wq (⟨rfl, rfl⟩ | ⟨HZ, rfl, rfl⟩); exact ⟨rfl, HPO.out⟩))
                  all_goals exact HZ.out.elim
              · obtain rfl : j = m.args.length := by omega
                have hpo : PutPost m bo w (.returned (.tuple #[])) wr := post_ok (by rw [HP.out, HN.out, show tableB m.args = .ok s from by rw [← HTB.out, List.take_length]]) (by rw [HO.out, HL.out]; simp) HG.out
                have HPO := Lib.hid hpo
                clear hpo
                go_wp2_with fail
                go_end0
                exact HPO.out
          · cases hft : fitsB m.imm 98 (farOf m) 61 with
            | ok s =>
              have hf : ((numF m.op).toNat : Int) = 98 := by rw [h]; rfl
              have hn : numPart m = .ok s := by unfold numPart; rw [h, ← hft]; rfl
              obtain ⟨B, hB⟩ : ∃ B, bs s = B := ⟨_, rfl⟩
              have hsb : B.size ≤ 4 := by rw [← hB]; exact fitsB_size hft
              have hX : A ++ B = bs (headB m :: (pairs (valsM m) ++ s)) := by rw [← HA1.out, ← hB, bs_append]; rfl
              have hc1 : ¬ (9223372036854775807 < A.size + B.size) := by omega
              have HB1 := Lib.hid hB
              have HX := Lib.hid hX
              have HN := Lib.hid hn
              have HF := Lib.hid (fun W => fits_is hft W)
              clear h hn hB hX hft
              go_wp2_with fail
              go_region_law (first | (go_simp; go_at_call 37; refine (HF.out _).mono ?_; rintro e wq ⟨rfl, hq⟩; rw [HB1.out]; (have HBT := Lib.hid (below_step HBT.out (by first | exact below_drewN_left hq | exact below_drew_left hq | exact hq))); (obtain ⟨hk1, hk2⟩ := bcell HBT.out); clear hq))
              all_goals
                go_wp2_with fail
                go_end0
                exact post_store (by rw [HP.out, HN.out]) HX.out HOO.out HG.out HBT.out
            | error k =>
              have hf : ((numF m.op).toNat : Int) = 98 := by rw [h]; rfl
              have hn : numPart m = .error k := by unfold numPart; rw [h, ← hft]; rfl
              have HN := Lib.hid hn
              obtain rfl := (fitsB_no hft).2
              have HF := Lib.hid (fun W => fits_dies hft W)
              clear h hn hft
              go_wp2_with fail
              have hc1 : ¬ (9223372036854775807 < A.size) := by omega
              have hpo : PutPost m bo w (.panicked [{ v := trouble 61, recovered := false }]) wr.drew := post_no (by rw [HP.out, HN.out]) HOO.out (grown_drew HG.out)
              have HPO := Lib.hid hpo
              clear hpo
              go_region_law (first | (go_simp; go_at_call 37; refine (HF.out _).mono ?_; rintro e wq (⟨rfl, rfl⟩ | ⟨HZ, rfl, rfl⟩); exact ⟨rfl, HPO.out⟩))
              all_goals exact HZ.out.elim
          · have hx : numF m.op ≠ 0 ∧ numF m.op ≠ 110 ∧ numF m.op ≠ 101 ∧ numF m.op ≠ 116 ∧ numF m.op ≠ 98 := by
              rcases h5 with h | h | h | h | h | h <;> rw [h] <;> decide
            have hn0 : numPart m = fitsB m.imm (numF m.op) (farOf m) 32 := by
              unfold numPart
              rw [if_neg hx.1, if_neg hx.2.1, if_neg hx.2.2.1, if_neg hx.2.2.2.1, if_neg hx.2.2.2.2]
            have q0 := u8_ne (n := 0) rfl hx.1
            have q1 := u8_ne (n := 110) rfl hx.2.1
            have q2 := u8_ne (n := 101) rfl hx.2.2.1
            have q3 := u8_ne (n := 116) rfl hx.2.2.2.1
            have q4 := u8_ne (n := 98) rfl hx.2.2.2.2
            clear hx h5
            cases hft : fitsB m.imm (numF m.op) (farOf m) 32 with
            | ok s =>
              have hn : numPart m = .ok s := by rw [hn0, hft]
              obtain ⟨B, hB⟩ : ∃ B, bs s = B := ⟨_, rfl⟩
              have hsb : B.size ≤ 4 := by rw [← hB]; exact fitsB_size hft
              have hX : A ++ B = bs (headB m :: (pairs (valsM m) ++ s)) := by rw [← HA1.out, ← hB, bs_append]; rfl
              have hc1 : ¬ (9223372036854775807 < A.size + B.size) := by omega
              have HB1 := Lib.hid hB
              have HX := Lib.hid hX
              have HN := Lib.hid hn
              have HF := Lib.hid (fun W => fits_is hft W)
              clear hn0 hn hB hX hft
              go_wp2_with fail
              go_region_law (first | (go_simp; go_at_call 37; refine (HF.out _).mono ?_; rintro e wq ⟨rfl, hq⟩; rw [HB1.out]; (have HBT := Lib.hid (below_step HBT.out (by first | exact below_drewN_left hq | exact below_drew_left hq | exact hq))); (obtain ⟨hk1, hk2⟩ := bcell HBT.out); clear hq))
              all_goals
                go_wp2_with fail
                go_end0
                exact post_store (by rw [HP.out, HN.out]) HX.out HOO.out HG.out HBT.out
            | error k =>
              have hn : numPart m = .error k := by rw [hn0, hft]
              have HN := Lib.hid hn
              obtain rfl := (fitsB_no hft).2
              have HF := Lib.hid (fun W => fits_dies hft W)
              clear hn0 hn hft
              go_wp2_with fail
              have hc1 : ¬ (9223372036854775807 < A.size) := by omega
              have hpo : PutPost m bo w (.panicked [{ v := trouble 32, recovered := false }]) wr.drew := post_no (by rw [HP.out, HN.out]) HOO.out (grown_drew HG.out)
              have HPO := Lib.hid hpo
              clear hpo
              go_region_law (first | (go_simp; go_at_call 37; refine (HF.out _).mono ?_; rintro e wq (⟨rfl, rfl⟩ | ⟨HZ, rfl, rfl⟩); exact ⟨rfl, HPO.out⟩))
              all_goals exact HZ.out.elim
end Go.Proofs.YtmoplcchiadlpaaDoor.Jc
