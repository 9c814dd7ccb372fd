/- code.Get's inner function: bytes are read into an instruction, or it gives up. -/
import Derived.Test.YtmoplcchiadlpaaDoorKMJc1
import Derived.Test.YtmoplcchiadlpaaDoorKMJcPut
import Derived.Deep.DeepCutAuto
import Derived.Deep.CutBlock
import Derived.Laws.EntriesVeiled
set_option linter.unusedVariables false
set_option linter.unusedSimpArgs false
namespace Go.Proofs.YtmoplcchiadlpaaDoor.Jc
open Go Go.RowKit Go.ChangeMaps Go.Proofs.YtmoplcchiadlpaaDoorW.PrintWords

def zeroM : M := ⟨0, 0, 0, 0, 0, 0, 0, []⟩
/-- What the inner function of Get comes to. -/
def GetPost (s : List UInt8) (bi bq : Nat) (w : World) (e : Ending) (w' : World) : Prop :=
  Kept2 w w' bi bq ∧ match getM s with
  | .ok r => e = .returned (.tuple #[]) ∧ (∃ a c, w'.heap[bi]? = some (.cells (cellsM r.1 a c) 24 (0, 0)) ∧ ArgsIn w' r.1 a c ∧ ∀ ad, a = some ad → w.heap.size ≤ ad.block) ∧ w'.heap[bq]? = some (.cells #[.int .i64 (r.2 : Int)] 3 (0, 0))
  | .error k => e = .panicked [{ v := trouble k, recovered := false }]

set_option maxRecDepth 100000 in
set_option maxHeartbeats 20000000 in
theorem get1_any (s : List UInt8) (hlen : s.length ≤ 1000000000) (p q bi : Nat) (hpq : p ≠ q) (hpi : p ≠ bi) (hqi : q ≠ bi) (w : World) (hp : w.heap[p]? = some (.cells #[.string (bs s)] 9 (0, 0)))
    (hq : w.heap[q]? = some (.cells #[.int .i64 0] 3 (0, 0))) (hi : w.heap[bi]? = some (.cells (cellsM zeroM none 0) 24 (0, 0))) (htab : ∀ W, Kept2 w W bi q → Lib.TabIs Tryd.prog W "strings.asciiSpace" .u8 Lib.asciiSpaceTab) :
    Calls Tryd.prog 58 #[.pointer (some ⟨p, 0, none⟩), .pointer (some ⟨q, 0, none⟩), .pointer (some ⟨bi, 0, none⟩)] w (GetPost s bi q w) := by
  have hcf := callTake
  have hcg := callSigned
  have HT := Lib.hid htab
  have HP := Lib.hid hp
  have HQ := Lib.hid hq
  have HI := Lib.hid hi
  clear htab hp hq hi
  go_enter Tryd.func58, Tryd.ntmps58
  go_wp2_with fail
  have hb1 : Below w.heap.size w (w.alloc (.cells #[takeFn p q] 80)) := below_alloc (Below.refl _ _) _
  have hr1 := alloc_at w (.cells #[takeFn p q] 80)
  unfold takeFn at hb1 hr1
  have hr2 : w.heap.size ≠ q ∧ w.heap.size ≠ bi ∧ p < w.heap.size := ⟨Nat.ne_of_gt (blk_lt' HQ.out), Nat.ne_of_gt (blk_lt' HI.out), blk_lt' HP.out⟩
  have hq1 := alloc_old (o := .cells #[.func (.func 59) #[] #[.pointer (some ⟨p, 0, none⟩), .pointer (some ⟨q, 0, none⟩)]] 80) HQ.out
  have hi1 := alloc_old (o := .cells #[.func (.func 59) #[] #[.pointer (some ⟨p, 0, none⟩), .pointer (some ⟨q, 0, none⟩)]] 80) HI.out
  have hp1 := alloc_old (o := .cells #[.func (.func 59) #[] #[.pointer (some ⟨p, 0, none⟩), .pointer (some ⟨q, 0, none⟩)]] 80) HP.out
  have hs1 := alloc_size w (.cells #[.func (.func 59) #[] #[.pointer (some ⟨p, 0, none⟩), .pointer (some ⟨q, 0, none⟩)]] 80)
  generalize w.alloc (.cells #[.func (.func 59) #[] #[.pointer (some ⟨p, 0, none⟩), .pointer (some ⟨q, 0, none⟩)]] 80) = W1 at hb1 hr1 hq1 hi1 hp1 hs1 ⊢
  have HR1 := Lib.hid hr1
  have HP1 := Lib.hid hp1
  have HB1 := Lib.hid hb1
  have hK : ∀ (w2 : World), Kept2 W1 w2 bi q → Kept2 w w2 bi q := fun w2 h => ⟨h.os.trans hb1.os, h.tape.trans hb1.tape, h.output.trans hb1.output, Nat.le_trans hb1.size h.size, fun k hk h1 h2 => (h.block k (Nat.lt_of_lt_of_le hk hb1.size) h1 h2).trans (hb1.block k hk)⟩
  have HKK := Lib.hid hK
  have HT1 := Lib.hid (fun W h => HT.out W (hK W h))
  have HQ1 := Lib.hid hq1
  have HI1 := Lib.hid hi1
  clear hb1 hr1 hp1 HT HP HQ HI hq1 hi1 hK
  by_cases h0 : s.length = 0
  · have hg : getM s = .error 62 := by unfold getM getRaw; rw [if_pos h0]
    have HG := Lib.hid hg
    clear hg
    refine (take_no 1 (by decide) s 0 p q W1 ((cell_blk HP1.out 0).trans rfl) ((cell_blk HQ1.out 0).trans rfl) (by omega) hlen (by omega)).mono ?_
    rintro e w2 ⟨rfl, rfl⟩
    go_wp2_with fail
    refine ⟨rfl, HKK.out _ (Kept2.refl _ _ _), ?_⟩
    rw [HG.out]
  · refine (take_ok 1 (by decide) s 0 p q hpq W1 ((cell_blk HP1.out 0).trans rfl) HQ1.out hlen (by omega)).mono ?_
    rintro e w2 ⟨rfl, hg, hq2⟩
    rw [beNum_one s 0 (by omega)]
    have hk2 : Kept2 W1 w2 bi q := (Kept2.refl W1 bi q).grown hg (.inr rfl)
    have hi2 := grown_blk HI1.out hg (by simp; omega)
    have hc2 : w2.cell? ⟨bi, 0, none⟩ = some (.int .i64 0) := (cell_blk hi2 0).trans rfl
    have hz2 : w2.frozen? ⟨bi, 0, none⟩ = false := froz_blk hi2 0
    have HK2 := Lib.hid hk2
    have HI2 := Lib.hid hi2
    have HQ2 := Lib.hid hq2
    have hby := byteI_range s 0
    clear hk2 hi2 hq2 hg HQ1 HI1
    go_upto_region 3 with (fail)
    have hi3 := set_cells HI2.out 0 (.int .i64 (byteI s 0))
    have hq3 := set_other HQ2.out (show bi ≠ q by omega) 0 (.int .i64 (byteI s 0))
    have hk3 := HK2.out.set (.inl rfl) 0 (.int .i64 (byteI s 0))
    generalize w2.setCell ⟨bi, 0, none⟩ (.int .i64 (byteI s 0)) = W3 at hi3 hq3 hk3 ⊢
    have hlt3 := blk_lt' hi3
    have hop3 : W3.cell? ⟨bi, 0, none⟩ = some (.int .i64 (byteI s 0)) := (cell_blk hi3 0).trans rfl
    have hop3o : ∀ o, (W3.alloc o).cell? ⟨bi, 0, none⟩ = some (.int .i64 (byteI s 0)) := fun o => (cell_blk (alloc_old (o := o) hi3) 0).trans rfl
    have HI3 := Lib.hid hi3
    have HQ3 := Lib.hid hq3
    have HK3 := Lib.hid hk3
    have HT3 : Lib.TabIs Tryd.prog W3 "strings.asciiSpace" .u8 Lib.asciiSpaceTab := HT1.out _ hk3
    have hmod : (byteI s 0).tmod 128 = opB s := by unfold opB; rw [Int.tmod_eq_emod_of_nonneg hby.1]
    have HT4 := Lib.hid HT3
    clear hi3 hq3 hk3 HT3 hc2 hz2 HI2 HQ2 HK2
    go_cut [5, 6] (fun o ok w1 => ∃ b, o = .pointer (some ⟨b, 0, none⟩) ∧ ok = .bool (known (opB s)) ∧ Aside0 (w1.cell? ⟨b, 0, none⟩ = some (.string (bs (nameOf (opB s))))) ∧ Aside0 (w1.cell? ⟨b, 1, none⟩ = some (.string (bs (fieldsOf (opB s))))) ∧ Aside0 (Below W3.heap.size W3 w1))
    case first =>
      go_region_held3 (fun w' => w'.cell? ⟨bi, 0, none⟩ = some (.int .i64 (byteI s 0))) (first | go_keep | (rw [World.cell?_setCell_far _ _ _ _ (by simp; try omega), World.cell?_setCell_far _ _ _ _ (by simp; try omega)]; assumption))
        (first | (go_at_call 45; refine (ops_some _ ?_).mono ?_; (repeat (first | exact HT4.out | apply tabIs_alloc | apply tabIs_drewN | apply tabIs_drew)); rintro e w1 ⟨B, rfl, hm, hb⟩; (have hk1 : w1.cell? ⟨bi, 0, none⟩ = some (.int .i64 (byteI s 0)) := (hb.cell (p := ⟨bi, 0, none⟩) (by simp; try omega)).trans (by simp [go_sem, hop3, hop3o])); have hl := lookup_ops hm (opB s); have hl2 := fun o => lookup_ops (hm.alloc o) (opB s); obtain ⟨hc1, hf1⟩ := bcell hb))
      all_goals
        go_wp2_with fail
        go_meet
        case rel =>
          have hsz := hb.size
          try replace hb := below_drewN_left hb
          try replace hb := below_drew_left hb
          refine ⟨_, rfl, rfl, ⟨?_⟩, ⟨?_⟩, ⟨?_⟩⟩
          · simp [go_sem, *]
          · simp [go_sem, *]
          · first
            | (refine Below.alloc (hb.mono ?_) ?_ _ <;> (simp at hsz ⊢; try omega); done)
            | (refine Below.setCell (Below.setCell (Below.trans (Below.alloc (Below.refl _ _) ?_ _) (hb.mono ?_)) ?_ _) ?_ _ <;> simp; done)
    obtain ⟨b5, rfl, rfl, HN5, HF5, HB5⟩ := hcut
    have hi5 := (HB5.out.block _ hlt3).trans HI3.out
    have hq5 := (HB5.out.block _ (blk_lt' HQ3.out)).trans HQ3.out
    have hk5 := HK3.out.below1 HB5.out
    have f5 : wc.cell? ⟨b5, 1, none⟩ = some (.string (bs (fieldsOf (opB s)))) := HF5.out
    have hop5 : wc.cell? ⟨bi, 0, none⟩ = some (.int .i64 (byteI s 0)) := (cell_blk hi5 0).trans rfl
    have hfar : decide (128 ≤ byteI s 0) = farB s := rfl
    have HI5 := Lib.hid hi5
    have HQ5 := Lib.hid hq5
    have HK5 := Lib.hid hk5
    have HMOD := Lib.hid hmod
    clear hi5 hq5 hk5 HB5 HN5 HF5 HI3 HQ3 HK3 HT4 hop3 hop3o hlt3 hmod
    go_wp2_with fail
    refine (split_any (fieldsOf (opB s)) (by have := fields_short (opB s); omega) _).mono ?_
    rintro e w5 ⟨rfl, rfl⟩
    rw [show (splitF (fieldsOf (opB s))).2 = numF (opB s) from rfl, show (splitF (fieldsOf (opB s))).1 = regsF (opB s) from rfl]
    go_upto_region 6 with (fail)
    go_cut [6, 9] (fun k6 f9 w' => k6 = .bool (known (opB s)) ∧ f9 = .bool (farB s) ∧ wc = w' ∧ (known (opB s) && (!farB s || decide (numF (opB s) = 98))) = true)
    case first =>
      by_cases hbad : (known (opB s) && (!farB s || decide (numF (opB s) = 98))) = false
      · have hg : getM s = .error 60 := by unfold getM getRaw; rw [if_neg h0, if_pos hbad]
        have HG := Lib.hid hg
        have hk : known (opB s) = false ∨ (known (opB s) = true ∧ farB s = true ∧ (((numF (opB s)).toNat : Int) == 98) = false) := by
          cases hk : known (opB s)
          · exact .inl rfl
          · rw [hk] at hbad
            simp at hbad
            exact .inr ⟨rfl, hbad.1, u8_ne rfl hbad.2⟩
        clear hg hbad hfar
        rcases hk with hk | ⟨hk, hf, hn⟩
        all_goals
          go_wp2_with fail
          refine (must_no 60 _).mono ?_
          rintro e w6 ⟨rfl, rfl⟩
          go_wp2_with fail
          refine ⟨rfl, HKK.out _ HK5.out, ?_⟩
          rw [HG.out]
      · have hgood : (known (opB s) && (!farB s || decide (numF (opB s) = 98))) = true := (Bool.eq_false_or_eq_true _).resolve_right hbad
        have HGD := Lib.hid hgood
        have hk : known (opB s) = true ∧ (farB s = false ∨ (farB s = true ∧ (((numF (opB s)).toNat : Int) == 98) = true)) := by
          simp only [Bool.and_eq_true, Bool.or_eq_true, Bool.not_eq_true', decide_eq_true_eq] at hgood
          refine ⟨hgood.1, ?_⟩
          cases hf : farB s
          · exact .inl rfl
          · rw [hf] at hgood
            simp at hgood
            exact .inr ⟨rfl, by rw [hgood.2]; rfl⟩
        clear hgood hbad hfar
        obtain ⟨hk, ⟨hf⟩ | ⟨hf, hn⟩⟩ := hk
        all_goals
          go_wp2_with fail
          refine (must_ok 60 _).mono ?_
          rintro e w6 ⟨rfl, rfl⟩
          go_wp2_with fail
          go_meet
          case rel => exact ⟨by rw [hk], by rw [hf], rfl, HGD.out⟩
    obtain ⟨rfl, rfl, rfl, hgood⟩ := hcut
    have HGD := Lib.hid hgood
    have z5 : wc.frozen? ⟨bi, 0, none⟩ = false := froz_blk HI5.out 0
    have hmod := HMOD.out
    clear hgood hfar f5 HMOD
    go_upto_if 53 with (fail)
    have hi6 := set_cells HI5.out 0 (.int .i64 (opB s))
    have hq6 := set_other HQ5.out (show bi ≠ q by omega) 0 (.int .i64 (opB s))
    have hk6 := HK5.out.set (.inl rfl) 0 (.int .i64 (opB s))
    generalize wc.setCell ⟨bi, 0, none⟩ (.int .i64 (opB s)) = W6 at hi6 hq6 hk6 ⊢
    have z6 : W6.frozen? ⟨bi, 2, none⟩ = false := froz_blk hi6 2
    have e6 : W6.cell? ⟨bi, 2, none⟩ = some (.int .i64 0) := (cell_blk hi6 2).trans rfl
    have HI6 := Lib.hid hi6
    have HQ6 := Lib.hid hq6
    have HK6 := Lib.hid hk6
    clear hi6 hq6 hk6 HI5 HQ5 HK5 hop5 z5 hmod
    go_cut [] (fun w' => Aside0 (w'.heap[bi]? = some (.cells (cellsM (startM s) none 0) 24 (0, 0))) ∧ Aside0 (w'.heap[q]? = some (.cells #[.int .i64 ((1 : Nat) : Int)] 3 (0, 0))) ∧ Aside0 (Kept2 W1 w' bi q))
    case first =>
      have hy : farB s = true → (W6.setCell ⟨bi, 2, none⟩ (.int .i64 1)).heap[bi]? = some (.cells (cellsM (startM s) none 0) 24 (0, 0)) := fun h => by
        rw [set_cells HI6.out]
        unfold startM
        rw [h]
        rfl
      have hn : farB s = false → W6.heap[bi]? = some (.cells (cellsM (startM s) none 0) 24 (0, 0)) := fun h => by
        rw [HI6.out]
        unfold startM
        rw [h]
        rfl
      have HY := Lib.hid hy
      have HN := Lib.hid hn
      clear hy hn
      go_wp2_with fail
      all_goals
        go_meet
        case rel =>
          first
          | exact ⟨⟨HY.out (by assumption)⟩, ⟨set_other HQ6.out (show bi ≠ q by omega) _ _⟩, ⟨HK6.out.set (.inl rfl) _ _⟩⟩
          | exact ⟨⟨HN.out (by simp only [*])⟩, ⟨HQ6.out⟩, ⟨HK6.out⟩⟩
          | exact ⟨⟨HN.out (by simp_all)⟩, ⟨HQ6.out⟩, ⟨HK6.out⟩⟩
    obtain ⟨HI7, HQ7, HK7⟩ := hcut
    clear HI6 HQ6 HK6 z6 e6
    have hL := regs_short (opB s)
    have hsz : (bs (regsF (opB s))).size = (regsF (opB s)).length := bs_size _
    go_wp2_with fail
    go_loopw [10] (fun i wr => ∃ (k : Nat) (m : M) (pos : Nat), i = .int .i64 (k : Int) ∧ k ≤ (regsF (opB s)).length + 1 ∧ pos ≤ s.length ∧ Aside0 (m.args = [] ∧ m.op = opB s) ∧ Aside0 (InR m) ∧ Aside0 (getRegs s ((regsF (opB s)).drop k) m pos = getRegs s (regsF (opB s)) (startM s) 1) ∧
      Aside0 (wr.heap[bi]? = some (.cells (cellsM m none 0) 24 (0, 0))) ∧ Aside0 (wr.heap[q]? = some (.cells #[.int .i64 (pos : Int)] 3 (0, 0))) ∧ Aside0 (Kept2 W1 wr bi q)) (fun i _ => (regsF (opB s)).length + 2 - (intOf i).toNat)
    case atStart => exact ⟨0, startM s, 1, rfl, by omega, by omega, ⟨rfl, rfl⟩, ⟨startM_in s⟩, ⟨rfl⟩, HI7, HQ7, HK7⟩
    case round =>
      clear HI7 HQ7 HK7
      obtain ⟨k, m, pos, rfl, hk, hpos, HM, HMI, HE, HI, HQ, HK⟩ := hrel
      have hP := HK.out.at HP1.out hpi hpq
      have hR := HK.out.at HR1.out hr2.2.1 hr2.1
      have t3 : wr.cell? ⟨w.heap.size, 0, none⟩ = some (.func (.func 59) #[] #[.pointer (some ⟨p, 0, none⟩), .pointer (some ⟨q, 0, none⟩)]) := (cell_blk hR 0).trans rfl
      by_cases hlt : k < (regsF (opB s)).length
      · have hk2 : k < (bs (regsF (opB s))).size := by rw [hsz]; exact hlt
        have hx : isReg ((bs (regsF (opB s)))[k]'hk2) = true := regs_are (opB s) _ (List.getElem_mem hlt)
        obtain ⟨off, hoff, hset⟩ := reg_off2 _ hx
        by_cases hps : pos < s.length
        · have hT := take_ok 1 (by decide) s pos p q hpq wr ((cell_blk hP 0).trans rfl) HQ.out hlen (by omega)
          rw [beNum_one s pos hps] at hT
          have HTK := Lib.hid hT
          have HOFF := Lib.hid hoff
          have HST := Lib.hid hset
          have hby := byteI_range s pos
          have hdrop : k + 1 < (regsF (opB s)).length → getRegs s ((regsF (opB s)).drop k) m pos = getRegs s ((regsF (opB s)).drop (k + 2)) (setReg (setReg m ((bs (regsF (opB s)))[k]'hk2) (byteI s pos / 16)) ((regsF (opB s)).getD (k + 1) 0) (byteI s pos % 16)) (pos + 1) := fun h => by
            rw [drop_two _ _ h, getRegs, if_pos hps, List.getD_eq_getElem?_getD, List.getElem?_eq_getElem h]
            rfl
          have hdrop1 : k + 1 = (regsF (opB s)).length → getRegs s ((regsF (opB s)).drop k) m pos = .ok (setReg m ((bs (regsF (opB s)))[k]'hk2) (byteI s pos / 16), pos + 1) := fun h => by
            rw [drop_last _ _ h, getRegs, if_pos hps]
            rfl
          have HD := Lib.hid hdrop
          have HD1 := Lib.hid hdrop1
          clear hT hP hR hx hoff hset hdrop hdrop1
          go_wp2_with fail
          refine HTK.out.mono ?_
          rintro e w8 ⟨rfl, hg8, hq8⟩
          generalize hb8 : byteI s pos = b at hby HD HD1
          have hi8 := grown_blk HI.out hg8 (by simp; omega)
          have hk8 := HK.out.grown hg8 (.inr rfl)
          have c8 : w8.cell? ⟨bi, off.toNat, none⟩ = some (.int .i64 (regVal m ((bs (regsF (opB s)))[k]'hk2))) := (cell_blk hi8 _).trans (HST.out m none 0).1
          have z8 : w8.frozen? ⟨bi, off.toNat, none⟩ = false := froz_blk hi8 _
          have HI8 := Lib.hid hi8
          have HQ8 := Lib.hid hq8
          have HK8 := Lib.hid hk8
          clear hi8 hq8 hk8 hg8 t3 HI HQ HK HTK
          go_wp2_with fail
          refine (register_at bi _ off HOFF.out _).mono ?_
          rintro e w9 ⟨rfl, rfl⟩
          by_cases hlast : k + 1 < (regsF (opB s)).length
          · have hk3 : k + 1 < (bs (regsF (opB s))).size := by rw [hsz]; exact hlast
            have hx : isReg ((bs (regsF (opB s)))[k + 1]'hk3) = true := regs_are (opB s) _ (List.getElem_mem hlast)
            obtain ⟨off2, hoff2, hset2⟩ := reg_off2 _ hx
            have hy : (regsF (opB s)).getD (k + 1) 0 = (bs (regsF (opB s)))[k + 1]'hk3 := by
              rw [List.getD_eq_getElem?_getD, List.getElem?_eq_getElem hlast]
              rfl
            have hd := HD.out hlast
            rw [hy] at hd
            have HDD := Lib.hid hd
            have HST2 := Lib.hid hset2
            have HOFF2 := Lib.hid hoff2
            have hand := i64_and15
            clear hx hy hd hset2 hoff2
            go_wp2_with fail
            have hi9 := set_cells HI8.out off.toNat (.int .i64 (b / 16))
            rw [(HST.out m none 0).2] at hi9
            have hq9 := set_other HQ8.out (show bi ≠ q by omega) off.toNat (.int .i64 (b / 16))
            have hk9 := HK8.out.set (.inl rfl) off.toNat (.int .i64 (b / 16))
            generalize w8.setCell ⟨bi, off.toNat, none⟩ (.int .i64 (b / 16)) = W9 at hi9 hq9 hk9 ⊢
            have c9 : W9.cell? ⟨bi, off2.toNat, none⟩ = some (.int .i64 _) := (cell_blk hi9 _).trans (HST2.out _ none 0).1
            have z9 : W9.frozen? ⟨bi, off2.toNat, none⟩ = false := froz_blk hi9 _
            have HI9 := Lib.hid hi9
            have HQ9 := Lib.hid hq9
            have HK9 := Lib.hid hk9
            clear hi9 hq9 hk9
            refine (register_at bi _ off2 HOFF2.out _).mono ?_
            rintro e w9 ⟨rfl, rfl⟩
            go_wp2_with fail
            go_roundw
            case rel =>
              refine ⟨k + 2, setReg (setReg m ((bs (regsF (opB s)))[k]'hk2) (b / 16)) ((bs (regsF (opB s)))[k + 1]'hk3) (b % 16), pos + 1, by go_num, by omega, by omega, ⟨?_⟩, ⟨setReg_in _ (setReg_in _ HMI.out _ _ ⟨by omega, by omega⟩) _ _ ⟨by omega, by omega⟩⟩, ⟨HDD.out.symm.trans HE.out⟩, ⟨?_⟩, ⟨set_other HQ9.out (show bi ≠ q by omega) _ _⟩, ⟨HK9.out.set (.inl rfl) _ _⟩⟩
              · rw [setReg_args, setReg_args, setReg_op, setReg_op]; exact HM.out
              · rw [set_cells HI9.out, (HST2.out _ none 0).2]
            case measure => simp [intOf]; omega
          · have hl : k + 1 = (regsF (opB s)).length := by omega
            have hd := HD1.out hl
            have HDD := Lib.hid hd
            clear hd
            go_wp2_with fail
            go_roundw
            case rel =>
              refine ⟨k + 2, setReg m ((bs (regsF (opB s)))[k]'hk2) (b / 16), pos + 1, by go_num, by omega, by omega, ⟨?_⟩, ⟨setReg_in _ HMI.out _ _ ⟨by omega, by omega⟩⟩, ⟨?_⟩, ⟨?_⟩, ⟨set_other HQ8.out (show bi ≠ q by omega) _ _⟩, ⟨HK8.out.set (.inl rfl) _ _⟩⟩
              · rw [setReg_args, setReg_op]; exact HM.out
              · rw [List.drop_of_length_le (by omega), ← HE.out, HDD.out]; rfl
              · rw [set_cells HI8.out, (HST.out _ none 0).2]
            case measure => simp [intOf]; omega
        · have herr : getRegs s ((regsF (opB s)).drop k) m pos = .error 62 := by
            by_cases hlast : k + 1 < (regsF (opB s)).length
            · rw [drop_two _ _ hlast, getRegs, if_neg hps]
            · rw [drop_last _ _ (by omega), getRegs, if_neg hps]
          have hg := getM_regs h0 HGD.out (HE.out.symm.trans herr)
          have HG := Lib.hid hg
          have HTK := Lib.hid (take_no 1 (by decide) s pos p q wr ((cell_blk hP 0).trans rfl) ((cell_blk HQ.out 0).trans rfl) hpos hlen (by omega))
          clear hg herr hset hoff hx hP hR
          go_wp2_with fail
          refine HTK.out.mono ?_
          rintro e w8 ⟨rfl, rfl⟩
          go_wp2_with fail
          refine ⟨rfl, HKK.out _ HK.out, ?_⟩
          rw [HG.out]
      · have hreg : getRegs s (regsF (opB s)) (startM s) 1 = .ok (m, pos) := by
          rw [← HE.out, List.drop_of_length_le (by omega)]
          rfl
        have HREG := Lib.hid hreg
        have hfe : fieldsOf (opB s) = fieldsOf m.op := by rw [HM.out.2]
        have hnf : numF (opB s) = numF m.op := by rw [HM.out.2]
        have HFE := Lib.hid hnf
        clear hreg HE hfe hnf
        go_upto_block 2 with (fail)
        go_cut [] (fun w' => ∃ (m2 : M) (a2 : Option Addr) (c2 p2 : Nat), Aside0 (getNum s m pos (farB s) = .ok (m2, p2)) ∧ Aside0 (w'.heap[bi]? = some (.cells (cellsM m2 a2 c2) 24 (0, 0))) ∧ Aside0 (w'.heap[q]? = some (.cells #[.int .i64 (p2 : Int)] 3 (0, 0))) ∧ Aside0 (Kept2 W1 w' bi q) ∧ Aside0 (ArgsIn w' m2 a2 c2) ∧ Aside0 (∀ W, Kept2 w' W bi q → ArgsIn W m2 a2 c2) ∧ Aside0 (InR m2) ∧ Aside0 (∀ ad, a2 = some ad → w.heap.size ≤ ad.block) ∧ p2 ≤ s.length)
        case first =>
          have hr3 : wr.cell? ⟨w.heap.size, 0, none⟩ = some (.func (.func 59) #[] #[.pointer (some ⟨p, 0, none⟩), .pointer (some ⟨q, 0, none⟩)]) := (cell_blk hR 0).trans rfl
          have hlq := blk_lt' HQ.out
          have hli := blk_lt' HI.out
          by_cases n0 : numF m.op = 0
          · have b0 : (((numF (opB s)).toNat : Int) == 0) = true := by rw [HFE.out, n0]; rfl
            have hg : getNum s m pos (farB s) = .ok (m, pos) := if_pos n0
            have HG := Lib.hid hg
            clear hg n0
            go_wp2_with fail
            go_meet
            case rel => exact ⟨m, none, 0, pos, ⟨HG.out⟩, HI, HQ, HK, ⟨args_none HM.out.1 _⟩, ⟨fun W _ => args_none HM.out.1 W⟩, HMI, ⟨fun ad h => by cases h⟩, hpos⟩
          by_cases n1 : numF m.op = 110
          · have b0 : (((numF (opB s)).toNat : Int) == 0) = false := by rw [HFE.out]; exact u8_ne rfl n0
            have b1 : (((numF (opB s)).toNat : Int) == 110) = true := by rw [HFE.out, n1]; rfl
            have hg0 : getNum s m pos (farB s) = if s.length < pos + 1 then .error 62 else if s.length < pos + 1 + 4 then .error 62 else .ok ({ m with imm := IntKind.i32.wrap (beNum ((s.drop (pos + 1)).take 4)), args := callArgs (min (byteI s pos).toNat 5) }, pos + 1 + 4) := (if_neg n0).trans (if_pos n1)
            by_cases hl : s.length < pos + 1
            · have HG := Lib.hid (getM_num h0 HGD.out HREG.out (hg0.trans (if_pos hl)))
              have HTK := Lib.hid (take_no 1 (by decide) s pos p q wr ((cell_blk hP 0).trans rfl) ((cell_blk HQ.out 0).trans rfl) hpos hlen (by omega))
              clear hg0 n0 n1
              go_wp2_with fail
              refine HTK.out.mono ?_
              rintro e w8 ⟨rfl, rfl⟩
              go_wp2_with fail
              refine ⟨rfl, HKK.out _ HK.out, ?_⟩
              rw [HG.out]
            have hT := take_ok 1 (by decide) s pos p q hpq wr ((cell_blk hP 0).trans rfl) HQ.out hlen (by omega)
            rw [beNum_one s pos (by omega)] at hT
            have HTK := Lib.hid hT
            have hby := byteI_range s pos
            by_cases hl4 : s.length < pos + 1 + 4
            · have HG := Lib.hid (getM_num h0 HGD.out HREG.out (hg0.trans ((if_neg hl).trans (if_pos hl4))))
              clear hT hg0 n0 n1
              go_wp2_with fail
              refine HTK.out.mono ?_
              rintro e w8 ⟨rfl, hg8, hq8⟩
              have hk8 := HK.out.grown hg8 (.inr rfl)
              have hp8 := grown_blk hP hg8 (by simp; omega)
              have t8 : w8.cell? ⟨w.heap.size, 0, none⟩ = some (.func (.func 59) #[] #[.pointer (some ⟨p, 0, none⟩), .pointer (some ⟨q, 0, none⟩)]) := (cell_blk (grown_blk hR hg8 (by simp; omega)) 0).trans rfl
              have HTK4 := Lib.hid (take_no 4 (by decide) s (pos + 1) p q w8 ((cell_blk hp8 0).trans rfl) ((cell_blk hq8 0).trans rfl) (by omega) hlen (by omega))
              have HK8 := Lib.hid hk8
              clear hk8 hp8 hg8 hq8
              go_wp2_with fail
              refine HTK4.out.mono ?_
              rintro e w9 ⟨rfl, rfl⟩
              go_wp2_with fail
              refine ⟨rfl, HKK.out _ HK8.out, ?_⟩
              rw [HG.out]
            have HGN := Lib.hid (hg0.trans ((if_neg hl).trans (if_neg hl4)))
            have hbr := be4_range s (pos + 1)
            clear hT hg0 n0 n1
            go_wp2_with fail
            refine HTK.out.mono ?_
            rintro e w8 ⟨rfl, hg8, hq8⟩
            have hk8 := HK.out.grown hg8 (.inr rfl)
            have hi8 := grown_blk HI.out hg8 (by simp; omega)
            have hp8 := grown_blk hP hg8 (by simp; omega)
            have t8 : w8.cell? ⟨w.heap.size, 0, none⟩ = some (.func (.func 59) #[] #[.pointer (some ⟨p, 0, none⟩), .pointer (some ⟨q, 0, none⟩)]) := (cell_blk (grown_blk hR hg8 (by simp; omega)) 0).trans rfl
            have HTK4 := Lib.hid (take_ok 4 (by decide) s (pos + 1) p q hpq w8 ((cell_blk hp8 0).trans rfl) hq8 hlen (by omega))
            have HK8 := Lib.hid hk8
            have HI8 := Lib.hid hi8
            clear hk8 hp8 hg8 hq8 hi8 HTK HI HQ HK
            generalize byteI s pos = b at hby HGN
            generalize beNum ((s.drop (pos + 1)).take 4) = v4 at hbr HGN HTK4
            go_wp2_with fail
            refine HTK4.out.mono ?_
            rintro e w9 ⟨rfl, hg9, hq9⟩
            have hk9 := HK8.out.grown hg9 (.inr rfl)
            have hi9 := grown_blk HI8.out hg9 (by simp; omega)
            have c9 : w9.cell? ⟨bi, 6, none⟩ = some (.int .i32 m.imm) := (cell_blk hi9 6).trans rfl
            have z9 : w9.frozen? ⟨bi, 6, none⟩ = false := froz_blk hi9 6
            have HK9 := Lib.hid hk9
            have HI9 := Lib.hid hi9
            have HQ9 := Lib.hid hq9
            clear hk9 hi9 hg9 hq9 HK8 HI8 HTK4
            go_wp2_with fail
            generalize hmn : min b 5 = M5
            have hM5 : 0 ≤ M5 ∧ M5 ≤ 5 := by omega
            obtain ⟨N, rfl⟩ := Int.eq_ofNat_of_zero_le hM5.1
            have hN5 : N ≤ 5 := by omega
            have hbn : min b.toNat 5 = N := by omega
            rw [hbn] at HGN
            have hiA := set_cells HI9.out 6 (.int .i32 (wrap32 v4))
            have hqA := set_other HQ9.out (show bi ≠ q by omega) 6 (.int .i32 (wrap32 v4))
            have hkA := HK9.out.set (.inl rfl) 6 (.int .i32 (wrap32 v4))
            generalize w9.setCell ⟨bi, 6, none⟩ (.int .i32 (wrap32 v4)) = WA at hiA hqA hkA ⊢
            have hiB : WA.heap[bi]? = some (.cells (cellsV { m with imm := wrap32 v4 } (.slice none 0 0)) 24 (0, 0)) := by
              rw [hiA]
              unfold cellsM cellsV
              rw [HM.out.1]
              rfl
            have hbA := blk_lt' hiA
            have hqB := blk_lt' hqA
            have hsA := hkA.size
            have HIB := Lib.hid hiB
            have HQA := Lib.hid hqA
            have HKA := Lib.hid hkA
            clear hmn hM5 hbn hiA hiB hqA hkA HI9 HQ9 HK9 c9 z9
            go_loopw [103] (fun i wl => ∃ (j : Nat) (v : Value), i = .int .i64 (j : Int) ∧ j ≤ N ∧ WA.heap.size ≤ wl.heap.size ∧ Aside0 (RowV wl WA.heap.size v (callArgs j)) ∧ Aside0 (wl.heap[bi]? = some (.cells (cellsV { m with imm := wrap32 v4 } v) 24 (0, 0))) ∧ Aside0 (wl.heap[q]? = some (.cells #[.int .i64 ((pos + 1 + 4 : Nat) : Int)] 3 (0, 0))) ∧ Aside0 (Kept2 W1 wl bi q)) (fun i _ => N - (intOf i).toNat)
            case atStart => exact ⟨0, .slice none 0 0, rfl, Nat.zero_le _, Nat.le_refl _, ⟨RowV.nil _ _⟩, ⟨HIB.out⟩, ⟨HQA.out⟩, ⟨HKA.out⟩⟩
            case round =>
              clear HIB HQA HKA
              obtain ⟨j, v, rfl, hj, hsz2, HR, HI, HQ, HK⟩ := hrel
              by_cases hlt : j < N
              · have c7 : wr.cell? ⟨bi, 7, none⟩ = some v := (cell_blk HI.out 7).trans rfl
                have hnl := nums_len .i64 (callArgs j)
                rw [callArgs_length] at hnl
                have HRO := HR.out.own
                have HROH := Lib.hid HRO
                clear HRO
                go_wp2_with (at_builtin; refine app_lits WA.heap.size rfl (.tmp 107) (.tmp 109) 22 3 (.int .i64 0) 8 rfl Tryd.underlying22 info_int rfl (by decide) _ (nums .i64 (callArgs j)) [_] 1 1 rfl rfl (by simp) (by simp; rfl) HROH.out (Below.refl _ _) hsz2 (by omega) ?_; intro v1 w1 hown hB; obtain ⟨A1, c1, hv1, _, _⟩ := (RowV.snoc (x := (j : Int)) hown).args; rw [show (callArgs j ++ [(j : Int)]).length = j + 1 by simp [callArgs_length]] at hv1; subst hv1; have hi1 := (hB.block _ hbA).trans HI.out; have hq1 := (hB.block _ hqB).trans HQ.out; have z7 : w1.frozen? ⟨bi, 7, none⟩ = false := froz_blk hi1 7; have c71 : w1.cell? ⟨bi, 7, none⟩ = some v := (cell_blk hi1 7).trans rfl; have HI1 := Lib.hid hi1; have HQ1 := Lib.hid hq1; have HOWN := Lib.hid hown; have HB1 := Lib.hid hB; clear hi1 hq1 hown hB)
                go_roundw
                case rel =>
                  refine ⟨j + 1, .slice A1 (j + 1) c1, by go_num, by omega, ?_, ⟨?_⟩, ⟨?_⟩, ⟨set_other HQ1.out (show bi ≠ q by omega) _ _⟩, ⟨?_⟩⟩
                  · have := HB1.out.size
                    simp
                    omega
                  · rw [callArgs_succ]
                    exact (RowV.snoc (x := (j : Int)) HOWN.out).kept2 ((Kept2.refl w1 bi q).set (.inl rfl) 7 _) hbA hqB
                  · rw [set_cells HI1.out, cellsV_set]
                  · exact (HK.out.below (HB1.out.mono hsA)).set (.inl rfl) _ _
                case measure => simp [intOf]; omega
              · obtain rfl : j = N := by omega
                obtain ⟨A, c, hv, _, _⟩ := HR.out.args
                subst hv
                go_wp2_with fail
                go_meet
                case rel =>
                  exact ⟨{ m with imm := IntKind.i32.wrap v4, args := callArgs j }, A, c, pos + 1 + 4, ⟨HGN.out⟩, ⟨by rw [← wrap32_is]; exact HI.out⟩, HQ, HK, ⟨RowV.argsIn (m := { m with imm := IntKind.i32.wrap v4, args := callArgs j }) HR.out⟩,
                    ⟨fun W hW => RowV.argsIn (m := { m with imm := IntKind.i32.wrap v4, args := callArgs j }) (HR.out.kept2 hW hbA hqB)⟩, ⟨⟨i32_range _, HMI.out.op, HMI.out.d, HMI.out.e, HMI.out.a, HMI.out.b, HMI.out.c, callArgs_in j hN5, by show (callArgs j).length ≤ 1000000; rw [callArgs_length]; omega⟩⟩, ⟨fun ad h => by have := HR.out.fresh ad h; omega⟩, by omega⟩
          by_cases n2 : numF m.op = 101
          · have b0 : (((numF (opB s)).toNat : Int) == 0) = false := by rw [HFE.out]; exact u8_ne rfl n0
            have b1 : (((numF (opB s)).toNat : Int) == 110) = false := by rw [HFE.out]; exact u8_ne rfl n1
            have b2 : (((numF (opB s)).toNat : Int) == 101) = true := by rw [HFE.out, n2]; rfl
            have hg0 : getNum s m pos (farB s) = if s.length < pos + 1 then .error 62 else .ok ({ m with e := byteI s pos }, pos + 1) := (if_neg n0).trans ((if_neg n1).trans (if_pos n2))
            by_cases hl : s.length < pos + 1
            · have HG := Lib.hid (getM_num h0 HGD.out HREG.out (hg0.trans (if_pos hl)))
              have HTK := Lib.hid (take_no 1 (by decide) s pos p q wr ((cell_blk hP 0).trans rfl) ((cell_blk HQ.out 0).trans rfl) hpos hlen (by omega))
              clear hg0 n0 n1 n2
              go_wp2_with fail
              refine HTK.out.mono ?_
              rintro e w8 ⟨rfl, rfl⟩
              go_wp2_with fail
              refine ⟨rfl, HKK.out _ HK.out, ?_⟩
              rw [HG.out]
            · have HGN := Lib.hid (hg0.trans (if_neg hl))
              have hT := take_ok 1 (by decide) s pos p q hpq wr ((cell_blk hP 0).trans rfl) HQ.out hlen (by omega)
              rw [beNum_one s pos (by omega)] at hT
              have HTK := Lib.hid hT
              have hby := byteI_range s pos
              clear hT hg0 n0 n1 n2
              go_wp2_with fail
              refine HTK.out.mono ?_
              rintro e w8 ⟨rfl, hg8, hq8⟩
              have hi8 := grown_blk HI.out hg8 (by simp; omega)
              have hk8 := HK.out.grown hg8 (.inr rfl)
              have c8 : w8.cell? ⟨bi, 2, none⟩ = some (.int .i64 m.e) := (cell_blk hi8 2).trans rfl
              have z8 : w8.frozen? ⟨bi, 2, none⟩ = false := froz_blk hi8 2
              have HI8 := Lib.hid hi8
              have HQ8 := Lib.hid hq8
              have HK8 := Lib.hid hk8
              clear hi8 hq8 hk8 hg8
              go_wp2_with fail
              go_meet
              case rel => exact ⟨{ m with e := byteI s pos }, none, 0, pos + 1, ⟨HGN.out⟩, ⟨by rw [set_cells HI8.out]; rfl⟩, ⟨set_other HQ8.out (show bi ≠ q by omega) _ _⟩, ⟨HK8.out.set (.inl rfl) _ _⟩, ⟨args_none (m := { m with e := byteI s pos }) HM.out.1 _⟩, ⟨fun W _ => args_none (m := { m with e := byteI s pos }) HM.out.1 W⟩, ⟨⟨HMI.out.imm, HMI.out.op, HMI.out.d, ⟨by show -9223372036854775808 ≤ byteI s pos; omega, by show byteI s pos ≤ 9223372036854775807; omega⟩, HMI.out.a, HMI.out.b, HMI.out.c, HMI.out.args, HMI.out.few⟩⟩, ⟨fun ad h => by cases h⟩, by omega⟩
          by_cases n3 : numF m.op = 116
          · have b0 : (((numF (opB s)).toNat : Int) == 0) = false := by rw [HFE.out]; exact u8_ne rfl n0
            have b1 : (((numF (opB s)).toNat : Int) == 110) = false := by rw [HFE.out]; exact u8_ne rfl n1
            have b2 : (((numF (opB s)).toNat : Int) == 101) = false := by rw [HFE.out]; exact u8_ne rfl n2
            have b3 : (((numF (opB s)).toNat : Int) == 116) = true := by rw [HFE.out, n3]; rfl
            have hg0 : getNum s m pos (farB s) = if s.length < pos + 1 then .error 62 else if ¬ (2 ≤ byteI s pos ∧ byteI s pos ≤ 65) then .error 60 else if s.length < pos + 1 + 3 * (byteI s pos).toNat then .error 62 else .ok ({ m with args := tableArgs s pos (farB s) (byteI s pos).toNat }, pos + 1 + 3 * (byteI s pos).toNat) := (if_neg n0).trans ((if_neg n1).trans ((if_neg n2).trans (if_pos n3)))
            by_cases hl : s.length < pos + 1
            · have HG := Lib.hid (getM_num h0 HGD.out HREG.out (hg0.trans (if_pos hl)))
              have HTK := Lib.hid (take_no 1 (by decide) s pos p q wr ((cell_blk hP 0).trans rfl) ((cell_blk HQ.out 0).trans rfl) hpos hlen (by omega))
              clear hg0 n0 n1 n2 n3
              go_wp2_with fail
              refine HTK.out.mono ?_
              rintro e w8 ⟨rfl, rfl⟩
              go_wp2_with fail
              refine ⟨rfl, HKK.out _ HK.out, ?_⟩
              rw [HG.out]
            have hT := take_ok 1 (by decide) s pos p q hpq wr ((cell_blk hP 0).trans rfl) HQ.out hlen (by omega)
            rw [beNum_one s pos (by omega)] at hT
            have HTK := Lib.hid hT
            have hby := byteI_range s pos
            have n98 : (numF (opB s)) = 116 := by rw [HFE.out, n3]
            by_cases hbd : ¬ (2 ≤ byteI s pos ∧ byteI s pos ≤ 65)
            · have HG := Lib.hid (getM_num h0 HGD.out HREG.out (hg0.trans ((if_neg hl).trans (if_pos hbd))))
              clear hT hg0 n0 n1 n2 n3 n98
              have hbb : decide (2 ≤ byteI s pos) = false ∨ (decide (2 ≤ byteI s pos) = true ∧ decide (byteI s pos ≤ 65) = false) := by
                simp only [decide_eq_true_eq, decide_eq_false_iff_not]
                omega
              generalize byteI s pos = b at hby HG HTK hbb hbd
              clear hbd
              rcases hbb with d1 | ⟨d1, d2⟩
              all_goals
                go_wp2_with fail
                refine HTK.out.mono ?_
                rintro e w8 ⟨rfl, hg8, hq8⟩
                have HK8 := Lib.hid (HK.out.grown hg8 (.inr rfl))
                clear hg8 hq8
                go_wp2_with fail
                refine (must_no 60 _).mono ?_
                rintro e w9 ⟨rfl, rfl⟩
                go_wp2_with fail
                refine ⟨rfl, HKK.out _ HK8.out, ?_⟩
                rw [HG.out]
            have hbe : 2 ≤ byteI s pos ∧ byteI s pos ≤ 65 := Classical.not_not.1 hbd
            have d1 : decide (2 ≤ byteI s pos) = true := by simpa using hbe.1
            have d2 : decide (byteI s pos ≤ 65) = true := by simpa using hbe.2
            have hlenI : (bs s).size = s.length := bs_size s
            by_cases hl3 : s.length < pos + 1 + 3 * (byteI s pos).toNat
            · have HG := Lib.hid (getM_num h0 HGD.out HREG.out (hg0.trans ((if_neg hl).trans ((if_neg hbd).trans (if_pos hl3)))))
              clear hT hg0 n0 n1 n2 n3 n98
              generalize byteI s pos = b at hby HG HTK hbd hbe d1 d2 hl3
              obtain ⟨N, rfl⟩ := Int.eq_ofNat_of_zero_le hby.1
              have hl3' : s.length < pos + 1 + 3 * N := by simpa using hl3
              clear hl3 hbd
              go_wp2_with fail
              refine HTK.out.mono ?_
              rintro e w8 ⟨rfl, hg8, hq8⟩
              have hp8 := grown_blk hP hg8 (by simp; omega)
              have sp8 : w8.cell? ⟨p, 0, none⟩ = some (.string (bs s)) := (cell_blk hp8 0).trans rfl
              have sq8 : w8.cell? ⟨q, 0, none⟩ = some (.int .i64 ((pos + 1 : Nat) : Int)) := (cell_blk hq8 0).trans rfl
              have HK8 := Lib.hid (HK.out.grown hg8 (.inr rfl))
              clear hg8 hq8 hp8
              go_wp2_with fail
              refine (must_ok 60 _).mono ?_
              rintro e w9 ⟨rfl, rfl⟩
              go_wp2_with fail
              have hno : decide (3 * (N : Int) ≤ (s.length : Int) - ((pos : Int) + 1)) = false := by simp; omega
              go_wp2_with fail
              rw [hno]
              refine (must_no 62 _).mono ?_
              rintro e w9 ⟨rfl, rfl⟩
              go_wp2_with fail
              refine ⟨rfl, HKK.out _ HK8.out, ?_⟩
              rw [HG.out]
            have HGN := Lib.hid (hg0.trans ((if_neg hl).trans ((if_neg hbd).trans (if_neg hl3))))
            have HNN := Lib.hid n3
            clear hT hg0 n0 n1 n2 n3 n98 hbd
            generalize hbN : byteI s pos = b at hby HGN HTK hbe d1 d2 hl3
            obtain ⟨N, rfl⟩ := Int.eq_ofNat_of_zero_le hby.1
            rw [Int.toNat_natCast] at HGN hl3
            have HBN := Lib.hid hbN
            clear hbN
            go_wp2_with fail
            refine HTK.out.mono ?_
            rintro e w8 ⟨rfl, hg8, hq8⟩
            have hp8 := grown_blk hP hg8 (by simp; omega)
            have hr8 := grown_blk hR hg8 (by simp; omega)
            have hi8 := grown_blk HI.out hg8 (by simp; omega)
            have sp8 : w8.cell? ⟨p, 0, none⟩ = some (.string (bs s)) := (cell_blk hp8 0).trans rfl
            have sq8 : w8.cell? ⟨q, 0, none⟩ = some (.int .i64 ((pos + 1 : Nat) : Int)) := (cell_blk hq8 0).trans rfl
            have hk8 := HK.out.grown hg8 (.inr rfl)
            have HK8 := Lib.hid hk8
            have HI8 := Lib.hid hi8
            have HQ8 := Lib.hid hq8
            have HP8 := Lib.hid hp8
            have HR8 := Lib.hid hr8
            clear hg8 hq8 hp8 hr8 hi8 hk8 HI HQ HK HTK
            go_wp2_with fail
            refine (must_ok 60 _).mono ?_
            rintro e w9 ⟨rfl, rfl⟩
            have hyes : decide (3 * (N : Int) ≤ (s.length : Int) - ((pos : Int) + 1)) = true := by simp; omega
            go_wp2_with fail
            refine (must_ok 62 _).mono ?_
            rintro e w9 ⟨rfl, rfl⟩
            have hN : N ≤ 65 := by omega
            have hnum : numF (opB s) = 116 := by rw [HFE.out]; exact HNN.out
            have hwd : (widthF 116 (farB s)).1 = 3 := by unfold widthF; simp
            have HNU := Lib.hid hnum
            have HWD := Lib.hid hwd
            have hbA := blk_lt' HI8.out
            have hqB := blk_lt' HQ8.out
            have hpA := blk_lt' HP8.out
            have hsA := HK8.out.size
            have hiB : w8.heap[bi]? = some (.cells (cellsV m (.slice none 0 0)) 24 (0, 0)) := by
              rw [HI8.out]
              unfold cellsM cellsV
              rw [HM.out.1]
              rfl
            have HIB := Lib.hid hiB
            clear hiB HI8 hyes sp8 sq8 d1 d2 hnum hwd
            go_wp2_with fail
            go_loopw [138] (fun i wl => ∃ (j : Nat) (v : Value), i = .int .i64 (j : Int) ∧ j ≤ N ∧ w8.heap.size ≤ wl.heap.size ∧ Aside0 (RowV wl w8.heap.size v (tableArgs s pos (farB s) j)) ∧ Aside0 (wl.heap[bi]? = some (.cells (cellsV m v) 24 (0, 0))) ∧ Aside0 (wl.heap[q]? = some (.cells #[.int .i64 ((pos + 1 + 3 * j : Nat) : Int)] 3 (0, 0))) ∧ Aside0 (Kept2 W1 wl bi q) ∧ Aside0 (wl.heap[p]? = some (.cells #[.string (bs s)] 9 (0, 0)))) (fun i _ => N - (intOf i).toNat)
            case atStart => exact ⟨0, .slice none 0 0, rfl, Nat.zero_le _, Nat.le_refl _, ⟨RowV.nil _ _⟩, ⟨HIB.out⟩, ⟨HQ8.out⟩, ⟨HK8.out⟩, ⟨HP8.out⟩⟩
            case round =>
              obtain ⟨j, v, rfl, hj, hsz2, HR, HI, HQ, HK, HPP⟩ := hrel
              by_cases hlt : j < N
              · have c7 : wr.cell? ⟨bi, 7, none⟩ = some v := (cell_blk HI.out 7).trans rfl
                have hRt := HK.out.at HR1.out hr2.2.1 hr2.1
                have hS : ∀ W : World, Kept2 wr W bi q → W.heap = wr.heap → Calls Tryd.prog 60 #[.int .u8 (numF (opB s)).toNat, .bool (farB s), .pointer (some ⟨w.heap.size, 0, none⟩)] W fun e w' => e = .returned (.int .i64 (sgnV 116 (farB s) (beNum ((s.drop (pos + 1 + 3 * j)).take 3)))) ∧ Kept2 wr w' bi q ∧ w'.heap[bi]? = wr.heap[bi]? ∧ w'.heap[q]? = some (.cells #[.int .i64 ((pos + 1 + 3 * (j + 1) : Nat) : Int)] 3 (0, 0)) := by
                  intro W hkW hW
                  have h := signed_ok (numF (opB s)) (farB s) s (pos + 1 + 3 * j) p q w.heap.size hpq W (by rw [cell_blk (by rw [hW]; exact HPP.out)]; rfl) (by rw [hW]; exact HQ.out) (by rw [cell_blk (by rw [hW]; exact hRt)]; rfl) hlen (by rw [HNU.out, HWD.out]; omega)
                  refine h.mono ?_
                  rintro e w' ⟨h1, h2, h3⟩
                  rw [HNU.out, HWD.out] at h1 h3
                  refine ⟨h1, hkW.grown h2 (.inr rfl), ?_, ?_⟩
                  · rw [h2.block bi (by rw [hW]; exact blk_lt' HI.out) (by simp; omega), hW]
                  · rw [h3, show pos + 1 + 3 * j + 3 = pos + 1 + 3 * (j + 1) by omega]
                have hx := sgn3_range (farB s) s (pos + 1 + 3 * j)
                generalize hX : sgnV 116 (farB s) (beNum ((s.drop (pos + 1 + 3 * j)).take 3)) = X at hS hx
                have HX := Lib.hid hX
                have HS := Lib.hid hS
                have hnl := nums_len .i64 (tableArgs s pos (farB s) j)
                rw [tableArgs_length] at hnl
                have HRO := Lib.hid HR.out.own
                clear hX hS hRt hx
                go_wp2_with fail
                go_region_law (first
                  | (go_simp; go_at_call 60; refine (HS.out _ (by exact ⟨rfl, rfl, rfl, Nat.le_refl _, fun _ _ _ _ => rfl⟩) (by rfl)).mono ?_; rintro e w9 ⟨rfl, hk9, hi9, hq9⟩; (have HRO := Lib.hid (HR.out.kept2 hk9 hbA hqB).own); (have HI := Lib.hid (hi9.trans HI.out)); (have HQ := Lib.hid hq9); (have hsz2 := Nat.le_trans hsz2 hk9.size); (have c7 : w9.cell? ⟨bi, 7, none⟩ = some v := (cell_blk HI.out 7).trans rfl); (have c7o : ∀ o, (w9.alloc o).cell? ⟨bi, 7, none⟩ = some v := fun o => (cell_blk (alloc_old (o := o) HI.out) 7).trans rfl); (have HK9 := Lib.hid hk9); clear hk9 hi9 hq9)
                  | (refine step_app_lits w8.heap.size rfl (.tmp 141) (.tmp 146) 22 3 (.int .i64 0) 8 rfl Tryd.underlying22 info_int rfl (by decide) _ (nums .i64 (tableArgs s pos (farB s) j)) [_] 1 1 rfl rfl (by simp) (by simp; rfl) HRO.out (Below.refl _ _) hsz2 (by omega) ?_; intro v1 w1 hown hB; obtain ⟨A1, c1, hv1, _, _⟩ := (RowV.snoc (x := X) hown).args; rw [show (tableArgs s pos (farB s) j ++ [X]).length = j + 1 by simp [tableArgs_length]] at hv1; subst hv1; have hi1 := (hB.block _ hbA).trans HI.out; have hq1 := (hB.block _ hqB).trans HQ.out; have z7 : w1.frozen? ⟨bi, 7, none⟩ = false := froz_blk hi1 7; have c71 : w1.cell? ⟨bi, 7, none⟩ = some v := (cell_blk hi1 7).trans rfl; have HI1 := Lib.hid hi1; have HQ1 := Lib.hid hq1; have HOWN := Lib.hid hown; have HB1 := Lib.hid hB; clear hi1 hq1 hown hB))
                all_goals
                  go_wp2_with fail
                  go_roundw
                  case rel =>
                    refine ⟨j + 1, .slice A1 (j + 1) c1, by go_num, by omega, ?_, ⟨?_⟩, ⟨?_⟩, ⟨set_other HQ1.out (show bi ≠ q by omega) _ _⟩, ⟨?_⟩, ⟨?_⟩⟩
                    · have := HB1.out.size
                      simp
                      omega
                    · rw [tableArgs_succ, show pos + 1 + 3 * j = pos + 1 + 3 * j from rfl, HX.out]
                      exact (RowV.snoc (x := X) HOWN.out).kept2 ((Kept2.refl w1 bi q).set (.inl rfl) 7 _) hbA hqB
                    · rw [set_cells HI1.out, cellsV_set]
                    · exact (((kept2_trans HK.out HK9.out).below (HB1.out.mono (Nat.le_trans hsA (Nat.le_refl _)))).set (.inl rfl) _ _)
                    · exact set_other ((HB1.out.block _ hpA).trans ((HK9.out.block p (blk_lt' HPP.out) hpi hpq).trans HPP.out)) (show bi ≠ p by omega) _ _
                  case measure => simp [intOf]; omega
              · obtain rfl : j = N := by omega
                obtain ⟨A, c, hv, _, _⟩ := HR.out.args
                rw [tableArgs_length] at hv
                subst hv
                go_wp2_with fail
                go_meet
                case rel =>
                  have hl : (tableArgs s pos (farB s) j).length = j := tableArgs_length _ _ _ _
                  have HR2 : RowV wr w8.heap.size (.slice A (tableArgs s pos (farB s) j).length c) (tableArgs s pos (farB s) j) := by rw [hl]; exact HR.out
                  exact ⟨{ m with args := tableArgs s pos (farB s) j }, A, c, pos + 1 + 3 * j, ⟨HGN.out⟩, ⟨by rw [HI.out]; unfold cellsM cellsV; rw [hl]⟩, HQ, HK, ⟨RowV.argsIn (m := { m with args := tableArgs s pos (farB s) j }) HR2⟩,
                    ⟨fun W hW => RowV.argsIn (m := { m with args := tableArgs s pos (farB s) j }) (HR2.kept2 hW hbA hqB)⟩, ⟨⟨HMI.out.imm, HMI.out.op, HMI.out.d, HMI.out.e, HMI.out.a, HMI.out.b, HMI.out.c, tableArgs_in s pos (farB s) j, by show (tableArgs s pos (farB s) j).length ≤ 1000000; rw [hl]; omega⟩⟩, ⟨fun ad h => by have := HR.out.fresh ad h; omega⟩, by omega⟩
          by_cases n4 : numF m.op = 119
          · have b0 : (((numF (opB s)).toNat : Int) == 0) = false := by rw [HFE.out]; exact u8_ne rfl n0
            have b1 : (((numF (opB s)).toNat : Int) == 110) = false := by rw [HFE.out]; exact u8_ne rfl n1
            have b2 : (((numF (opB s)).toNat : Int) == 101) = false := by rw [HFE.out]; exact u8_ne rfl n2
            have b3 : (((numF (opB s)).toNat : Int) == 116) = false := by rw [HFE.out]; exact u8_ne rfl n3
            have b4 : (((numF (opB s)).toNat : Int) == 119) = true := by rw [HFE.out, n4]; rfl
            have hg0 : getNum s m pos (farB s) = if s.length < pos + 4 then .error 62 else .ok ({ m with imm := IntKind.i32.wrap (beNum ((s.drop pos).take 4)) }, pos + 4) := (if_neg n0).trans ((if_neg n1).trans ((if_neg n2).trans ((if_neg n3).trans (if_pos n4))))
            by_cases hl : s.length < pos + 4
            · have HG := Lib.hid (getM_num h0 HGD.out HREG.out (hg0.trans (if_pos hl)))
              have HTK := Lib.hid (take_no 4 (by decide) s pos p q wr ((cell_blk hP 0).trans rfl) ((cell_blk HQ.out 0).trans rfl) hpos hlen (by omega))
              clear hg0 n0 n1 n2 n3 n4
              go_wp2_with fail
              refine HTK.out.mono ?_
              rintro e w8 ⟨rfl, rfl⟩
              go_wp2_with fail
              refine ⟨rfl, HKK.out _ HK.out, ?_⟩
              rw [HG.out]
            · have HGN := Lib.hid (hg0.trans (if_neg hl))
              have HTK := Lib.hid (take_ok 4 (by decide) s pos p q hpq wr ((cell_blk hP 0).trans rfl) HQ.out hlen (by omega))
              have hbr := be4_range s pos
              clear hg0 n0 n1 n2 n3 n4
              go_wp2_with fail
              refine HTK.out.mono ?_
              rintro e w8 ⟨rfl, hg8, hq8⟩
              have hi8 := grown_blk HI.out hg8 (by simp; omega)
              have hk8 := HK.out.grown hg8 (.inr rfl)
              have c8 : w8.cell? ⟨bi, 6, none⟩ = some (.int .i32 m.imm) := (cell_blk hi8 6).trans rfl
              have z8 : w8.frozen? ⟨bi, 6, none⟩ = false := froz_blk hi8 6
              have HI8 := Lib.hid hi8
              have HQ8 := Lib.hid hq8
              have HK8 := Lib.hid hk8
              clear hi8 hq8 hk8 hg8
              go_wp2_with fail
              go_meet
              case rel => exact ⟨{ m with imm := IntKind.i32.wrap (beNum ((s.drop pos).take 4)) }, none, 0, pos + 4, ⟨HGN.out⟩, ⟨by rw [set_cells HI8.out, wrap32_is]; rfl⟩, ⟨set_other HQ8.out (show bi ≠ q by omega) _ _⟩, ⟨HK8.out.set (.inl rfl) _ _⟩, ⟨args_none (m := { m with imm := IntKind.i32.wrap (beNum ((s.drop pos).take 4)) }) HM.out.1 _⟩, ⟨fun W _ => args_none (m := { m with imm := IntKind.i32.wrap (beNum ((s.drop pos).take 4)) }) HM.out.1 W⟩, ⟨⟨i32_range _, HMI.out.op, HMI.out.d, HMI.out.e, HMI.out.a, HMI.out.b, HMI.out.c, HMI.out.args, HMI.out.few⟩⟩, ⟨fun ad h => by cases h⟩, by omega⟩
          have b0 : (((numF (opB s)).toNat : Int) == 0) = false := by rw [HFE.out]; exact u8_ne rfl n0
          have b1 : (((numF (opB s)).toNat : Int) == 110) = false := by rw [HFE.out]; exact u8_ne rfl n1
          have b2 : (((numF (opB s)).toNat : Int) == 101) = false := by rw [HFE.out]; exact u8_ne rfl n2
          have b3 : (((numF (opB s)).toNat : Int) == 116) = false := by rw [HFE.out]; exact u8_ne rfl n3
          have b4 : (((numF (opB s)).toNat : Int) == 119) = false := by rw [HFE.out]; exact u8_ne rfl n4
          have hg0 : getNum s m pos (farB s) = if s.length < pos + (widthF (numF (opB s)) (farB s)).1 then .error 62 else .ok ({ m with imm := IntKind.i32.wrap (sgnV (numF (opB s)) (farB s) (beNum ((s.drop pos).take (widthF (numF (opB s)) (farB s)).1))) }, pos + (widthF (numF (opB s)) (farB s)).1) := by
            rw [HFE.out]
            exact (if_neg n0).trans ((if_neg n1).trans ((if_neg n2).trans ((if_neg n3).trans (if_neg n4))))
          by_cases hl : s.length < pos + (widthF (numF (opB s)) (farB s)).1
          · have HG := Lib.hid (getM_num h0 HGD.out HREG.out (hg0.trans (if_pos hl)))
            have HTK := Lib.hid (signed_no (numF (opB s)) (farB s) s pos p q w.heap.size wr ((cell_blk hP 0).trans rfl) ((cell_blk HQ.out 0).trans rfl) hr3 hpos hlen (by omega))
            clear hg0 n0 n1 n2 n3 n4
            go_wp2_with fail
            refine HTK.out.mono ?_
            rintro e w8 ⟨rfl, rfl⟩
            go_wp2_with fail
            refine ⟨rfl, HKK.out _ HK.out, ?_⟩
            rw [HG.out]
          · have HGN := Lib.hid (hg0.trans (if_neg hl))
            have HTK := Lib.hid (signed_ok (numF (opB s)) (farB s) s pos p q w.heap.size hpq wr ((cell_blk hP 0).trans rfl) HQ.out hr3 hlen (by omega))
            clear hg0 n0 n1 n2 n3 n4
            go_wp2_with fail
            refine HTK.out.mono ?_
            rintro e w8 ⟨rfl, hg8, hq8⟩
            have hi8 := grown_blk HI.out hg8 (by simp; omega)
            have hk8 := HK.out.grown hg8 (.inr rfl)
            have c8 : w8.cell? ⟨bi, 6, none⟩ = some (.int .i32 m.imm) := (cell_blk hi8 6).trans rfl
            have z8 : w8.frozen? ⟨bi, 6, none⟩ = false := froz_blk hi8 6
            have HI8 := Lib.hid hi8
            have HQ8 := Lib.hid hq8
            have HK8 := Lib.hid hk8
            clear hi8 hq8 hk8 hg8
            go_wp2_with fail
            go_meet
            case rel => exact ⟨{ m with imm := IntKind.i32.wrap (sgnV (numF (opB s)) (farB s) (beNum ((s.drop pos).take (widthF (numF (opB s)) (farB s)).1))) }, none, 0, pos + (widthF (numF (opB s)) (farB s)).1, ⟨HGN.out⟩, ⟨by rw [set_cells HI8.out, wrap32_is]; rfl⟩, ⟨set_other HQ8.out (show bi ≠ q by omega) _ _⟩, ⟨HK8.out.set (.inl rfl) _ _⟩, ⟨args_none (m := { m with imm := IntKind.i32.wrap (sgnV (numF (opB s)) (farB s) (beNum ((s.drop pos).take (widthF (numF (opB s)) (farB s)).1))) }) HM.out.1 _⟩, ⟨fun W _ => args_none (m := { m with imm := IntKind.i32.wrap (sgnV (numF (opB s)) (farB s) (beNum ((s.drop pos).take (widthF (numF (opB s)) (farB s)).1))) }) HM.out.1 W⟩, ⟨⟨i32_range _, HMI.out.op, HMI.out.d, HMI.out.e, HMI.out.a, HMI.out.b, HMI.out.c, HMI.out.args, HMI.out.few⟩⟩, ⟨fun ad h => by cases h⟩, by omega⟩
        obtain ⟨m2, a2, c2, p2, HGN, HI, HQ, HK, HAR, HAK, HIN, HFR, hp2⟩ := hcut
        have hraw := getM_raw h0 HGD.out HREG.out HGN.out
        have HRAW := Lib.hid hraw
        have hi2 := HI.out
        have c0 : wc.cell? ⟨bi, 0, none⟩ = some (.int .i64 m2.op) := (cell_blk hi2 0).trans rfl
        have c2e : wc.cell? ⟨bi, 2, none⟩ = some (.int .i64 m2.e) := (cell_blk hi2 2).trans rfl
        have zz2 : wc.frozen? ⟨bi, 2, none⟩ = false := froz_blk hi2 2
        clear hraw hi2 HGN HREG
        go_upto_if 159 with (fail)
        go_cut [] (fun w' => Aside0 (w'.heap[bi]? = some (.cells (cellsM (fixE m2) a2 c2) 24 (0, 0))) ∧ Aside0 (w'.heap[q]? = some (.cells #[.int .i64 (p2 : Int)] 3 (0, 0))) ∧ Aside0 (Kept2 W1 w' bi q) ∧ Aside0 (ArgsIn w' (fixE m2) a2 c2))
        case first =>
          have hy : m2.op = 29 → (wc.setCell ⟨bi, 2, none⟩ (.int .i64 1)).heap[bi]? = some (.cells (cellsM (fixE m2) a2 c2) 24 (0, 0)) ∧ ArgsIn (wc.setCell ⟨bi, 2, none⟩ (.int .i64 1)) (fixE m2) a2 c2 := fun h => by
            have hk := HAK.out _ ((Kept2.refl wc bi q).set (.inl rfl) 2 (.int .i64 1))
            unfold fixE
            rw [if_pos h, set_cells HI.out]
            exact ⟨rfl, ⟨hk.reads, hk.cap⟩⟩
          have hn : ¬ m2.op = 29 → wc.heap[bi]? = some (.cells (cellsM (fixE m2) a2 c2) 24 (0, 0)) ∧ ArgsIn wc (fixE m2) a2 c2 := fun h => by
            unfold fixE
            rw [if_neg h]
            exact ⟨HI.out, HAR.out⟩
          have HY := Lib.hid hy
          have HN := Lib.hid hn
          clear hy hn
          by_cases h29 : m2.op = 29
          · have hb29 : (m2.op == 29) = true := by simpa using h29
            have H29 := Lib.hid h29
            clear h29
            go_wp2_with fail
            go_meet
            case rel => exact ⟨⟨(HY.out H29.out).1⟩, ⟨set_other HQ.out (show bi ≠ q by omega) _ _⟩, ⟨HK.out.set (.inl rfl) _ _⟩, ⟨(HY.out H29.out).2⟩⟩
          · have hb29 : (m2.op == 29) = false := by simpa using h29
            have H29 := Lib.hid h29
            clear h29
            go_wp2_with fail
            go_meet
            case rel => exact ⟨⟨(HN.out H29.out).1⟩, HQ, HK, ⟨(HN.out H29.out).2⟩⟩
        obtain ⟨HI3, HQ3, HK3, HA3⟩ := hcut
        have hin3 : InR (fixE m2) := by
          have h := HIN.out
          unfold fixE
          split
          · exact ⟨h.imm, h.op, h.d, ⟨show (-9223372036854775808 : Int) ≤ 1 by decide, show (1 : Int) ≤ 9223372036854775807 by decide⟩, h.a, h.b, h.c, h.args, h.few⟩
          · exact h
        clear HI HQ HK HAR HAK HIN c0 c2e zz2
        have hput := put_any (fixE m2) hin3 a2 c2 wc HA3.out (HT1.out _ HK3.out)
        unfold cellsM at hput
        have HPT := Lib.hid hput
        have hi3 := HI3.out
        unfold cellsM at hi3
        have d0 : wc.cell? ⟨bi, 0, none⟩ = some (.int .i64 (fixE m2).op) := (cell_blk hi3 0).trans rfl
        have d1 : wc.cell? ⟨bi, 1, none⟩ = some (.int .i64 (fixE m2).d) := (cell_blk hi3 1).trans rfl
        have d2 : wc.cell? ⟨bi, 2, none⟩ = some (.int .i64 (fixE m2).e) := (cell_blk hi3 2).trans rfl
        have d3 : wc.cell? ⟨bi, 3, none⟩ = some (.int .i64 (fixE m2).a) := (cell_blk hi3 3).trans rfl
        have d4 : wc.cell? ⟨bi, 4, none⟩ = some (.int .i64 (fixE m2).b) := (cell_blk hi3 4).trans rfl
        have d5 : wc.cell? ⟨bi, 5, none⟩ = some (.int .i64 (fixE m2).c) := (cell_blk hi3 5).trans rfl
        have d6 : wc.cell? ⟨bi, 6, none⟩ = some (.int .i32 (fixE m2).imm) := (cell_blk hi3 6).trans rfl
        have d7 : wc.cell? ⟨bi, 7, none⟩ = some (.slice a2 (fixE m2).args.length c2) := (cell_blk hi3 7).trans rfl
        have hq4 := HQ3.out
        have hpp := HK3.out.at HP1.out hpi hpq
        clear hput hi3
        go_wp2_with fail
        refine HPT.out.mono ?_
        rintro e wf ⟨rfl, hbf⟩
        have hkf := HK3.out.below1 hbf
        have hif := (hbf.block _ (blk_lt' HI3.out)).trans HI3.out
        have hqf := (hbf.block _ (blk_lt' hq4)).trans hq4
        have hpf := (hbf.block _ (blk_lt' hpp)).trans hpp
        have haf := HA3.out.below hbf
        have s0 : wf.cell? ⟨p, 0, none⟩ = some (.string (bs s)) := (cell_blk hpf 0).trans rfl
        have q0 : wf.cell? ⟨q, 0, none⟩ = some (.int .i64 (p2 : Int)) := (cell_blk hqf 0).trans rfl
        have hss : (bs s).size = s.length := bs_size _
        have hex : (bs s).extract 0 p2 = bs (s.take p2) := by
          apply ByteArray.ext
          apply Array.toList_inj.1
          simp [ByteArray.data_extract]
        have HRAW2 := HRAW.out
        have HKF := Lib.hid hkf
        have HIF := Lib.hid hif
        have HQF := Lib.hid hqf
        have HAF := Lib.hid haf
        clear hkf hif hqf hpf haf hpp hq4 hbf d0 d1 d2 d3 d4 d5 d6 d7 HRAW
        cases hpm : put (fixE m2) with
        | error k =>
          have hE : putE (fixE m2) = k := by unfold putE; rw [hpm]
          have hne : (k == 0) = false := by
            rw [beq_eq_false_iff_ne]
            rcases put_err hpm with h | h | h | h <;> omega
          rw [hpm] at HRAW2
          have HG := Lib.hid HRAW2
          have HEE := Lib.hid hE
          rw [HEE.out]
          clear hpm HRAW2 hE
          go_wp2_with fail
          refine (must_no 60 _).mono ?_
          rintro e w6 ⟨rfl, rfl⟩
          go_wp2_with fail
          refine ⟨rfl, HKK.out _ HKF.out, ?_⟩
          rw [HG.out]
        | ok t =>
          have hE : putE (fixE m2) = 0 := by unfold putE; rw [hpm]
          have hS : putS (fixE m2) = t := by unfold putS; rw [hpm]
          rw [hpm] at HRAW2
          have HEE := Lib.hid hE
          have HSS := Lib.hid hS
          rw [HEE.out, HSS.out]
          clear hpm hE hS
          by_cases ht : t = s.take p2
          · have HG := Lib.hid (show getM s = .ok (fixE m2, p2) by rw [HRAW2]; exact if_pos ht)
            have hbt : (t == s.take p2) = true := by rw [ht]; simp
            clear HRAW2 ht
            go_wp2_with fail
            refine (must_ok 60 _).mono ?_
            rintro e w6 ⟨rfl, rfl⟩
            go_wp2_with fail
            go_end0
            refine ⟨HKK.out _ HKF.out, ?_⟩
            rw [HG.out]
            exact ⟨rfl, ⟨a2, c2, HIF.out, HAF.out, HFR.out⟩, HQF.out⟩
          · have HG := Lib.hid (show getM s = .error 60 by rw [HRAW2]; exact if_neg ht)
            have hbt : (t == s.take p2) = false := by simpa using ht
            clear HRAW2 ht
            go_wp2_with fail
            refine (must_no 60 _).mono ?_
            rintro e w6 ⟨rfl, rfl⟩
            go_wp2_with fail
            refine ⟨rfl, HKK.out _ HKF.out, ?_⟩
            rw [HG.out]
end Go.Proofs.YtmoplcchiadlpaaDoor.Jc
