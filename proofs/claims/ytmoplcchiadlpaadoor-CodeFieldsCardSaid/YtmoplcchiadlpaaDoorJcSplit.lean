/- code.split: fields, parted into registers and the number's letter. -/
import Derived.Test.YtmoplcchiadlpaaDoorJcMem
import Derived.Test.YtmoplcchiadlpaaDoorShelf
import Derived.WalkLawsBesides
import Derived.WalkSpells
import Derived.Lib.Hide
set_option linter.unusedVariables false
set_option linter.unusedSimpArgs false
namespace Go.Proofs.YtmoplcchiadlpaaDoor.Jc
open Go Go.RowKit Go.ChangeMaps Go.Proofs.YtmoplcchiadlpaaDoorW.PrintWords

theorem isReg_index (x : UInt8) : isReg x = decide (0 ≤ Lib.indexByte [68, 65, 66, 67] x) := by
  have h : ∀ i : Fin 256, isReg (UInt8.ofNat i.val) = decide (0 ≤ Lib.indexByte [68, 65, 66, 67] (UInt8.ofNat i.val)) := by decide +kernel
  have hx : UInt8.ofNat x.toNat = x := by simp
  have := h ⟨x.toNat, x.toNat_lt⟩
  simpa only [hx] using this

set_option maxRecDepth 100000 in
set_option maxHeartbeats 1000000 in
theorem split_any (f : List UInt8) (hf : f.length ≤ 1000) (w : World) :
    Calls Tryd.prog 34 #[.string (bs f)] w fun e w' => e = .returned (.tuple #[.string (bs (splitF f).1), .int .u8 (splitF f).2.toNat]) ∧ w = w' := by
  have hsz : (bs f).size = f.length := by simp [ByteArray.size]
  go_enter Tryd.func34, Tryd.ntmps34
  go_wp2_with fail
  go_loop [2, 3, 7] (fun a b i => ∃ (k : Nat) (regs : List UInt8) (num : UInt8), k ≤ f.length ∧ i = .int .i64 k ∧ a = .string (bs regs) ∧ b = .int .u8 num.toNat ∧ Aside0 (regs.length ≤ k) ∧ Aside0 (splitGo (f.drop k) regs num = splitF f)) (fun _ _ i => f.length - (intOf i).toNat)
  case atStart => exact ⟨0, [], 0, Nat.zero_le _, rfl, rfl, rfl, ⟨by simp⟩, ⟨rfl⟩⟩
  case round =>
    obtain ⟨k, regs, num, hk, rfl, rfl, rfl, HL, HG⟩ := hrel
    by_cases hlt : k < f.length
    · have hk2 : k < (bs f).size := by rw [hsz]; exact hlt
      have hd : f.drop k = (bs f)[k]'hk2 :: f.drop (k + 1) := List.drop_eq_getElem_cons hlt
      have hone : (bs f).extract k (k + 1) = bs [(bs f)[k]'hk2] := by
        apply ByteArray.ext
        apply Array.toList_inj.1
        have e : ((bs f).extract k (k + 1)).data.toList = (f.drop k).take 1 := by simp [ByteArray.data_extract, List.take_drop, Nat.add_comm]
        rw [e, hd]
        rfl
      have hs1 : (bs regs).size ≤ 1000 := by have := HL.out; show regs.toArray.size ≤ _; simp; omega
      have hs2 : ((bs f).extract k (k + 1)).size ≤ 1000 := by rw [hone]; show [_].toArray.size ≤ _; simp
      have HG1 := Aside0.mk (show splitGo ((bs f)[k]'hk2 :: f.drop (k + 1)) regs num = splitF f by rw [← hd]; exact HG.out)
      have HONE := Lib.hid hone
      clear hd HG hone
      have hI : ∀ (x : UInt8) (W : World), Calls Tryd.prog 65 #[.string ⟨#[68, 65, 66, 67]⟩, .int .u8 x.toNat] W fun e w' => e = .returned (.int .i64 (Lib.indexByte [68, 65, 66, 67] x)) ∧ W = w' := fun x W =>
        (Tryd.strings_IndexByte ⟨#[68, 65, 66, 67]⟩ (x.toNat : Int) W).mono fun e w' ⟨h1, h2⟩ => ⟨by rw [h1]; simp, h2.symm⟩
      have HI := Lib.hid hI
      clear hI
      have hsz2 := Lib.hid hsz
      have hszle : (bs f).size ≤ 1000 := by omega
      clear hsz
      go_wp2_with fail
      refine (HI.out _ _).mono ?_
      rintro e w' ⟨rfl, rfl⟩
      cases hr : isReg ((bs f)[k]'hk2)
      · have hi := isReg_index ((bs f)[k]'hk2)
        rw [hr] at hi
        have h0 : decide (0 ≤ Lib.indexByte [68, 65, 66, 67] ((bs f)[k]'hk2)) = false := hi.symm
        clear hi
        have hg1 : splitGo ((bs f)[k]'hk2 :: f.drop (k + 1)) regs num = if (bs f)[k]'hk2 = 110 then (regs, (bs f)[k]'hk2) else splitGo (f.drop (k + 1)) regs ((bs f)[k]'hk2) := by rw [splitGo, hr]; simp
        by_cases h110 : (bs f)[k]'hk2 = 110
        · rw [if_pos h110, HG1.out, h110] at hg1
          have HFIN := Lib.hid hg1
          have hb : (((bs f)[k]'hk2).toNat : Int) = 110 := by rw [h110]; rfl
          clear hg1 h110 hr HG1
          go_wp2_with fail
          go_ret2
          exact ⟨by rw [HFIN.out]; rfl, rfl⟩
        · rw [if_neg h110, HG1.out] at hg1
          have HN := Aside0.mk hg1
          have hb : ((((bs f)[k]'hk2).toNat : Int) == 110) = false := by
            rw [beq_eq_false_iff_ne]
            intro e
            exact h110 (UInt8.toNat_inj.1 (by have : (110 : UInt8).toNat = 110 := rfl; omega))
          clear hg1 h110 hr HG1
          go_wp2_with fail
          go_round
          case rel => exact ⟨k + 1, regs, _, by omega, by go_num, rfl, rfl, ⟨by have := HL.out; omega⟩, ⟨HN.out.symm⟩⟩
          case measure => simp [intOf]; omega
      · have hi := isReg_index ((bs f)[k]'hk2)
        rw [hr] at hi
        have h0 : decide (0 ≤ Lib.indexByte [68, 65, 66, 67] ((bs f)[k]'hk2)) = true := hi.symm
        have hg1 : splitGo ((bs f)[k]'hk2 :: f.drop (k + 1)) regs num = splitGo (f.drop (k + 1)) (regs ++ [(bs f)[k]'hk2]) num := by rw [splitGo, hr]; simp
        rw [HG1.out] at hg1
        have HN := Aside0.mk hg1
        clear hi hg1 hr HG1
        go_wp2_with fail
        go_round
        case rel => exact ⟨k + 1, regs ++ [(bs f)[k]'hk2], num, by omega, by go_num, by rw [HONE.out, bs_append], rfl, ⟨by have := HL.out; simp; omega⟩, ⟨HN.out.symm⟩⟩
        case measure => simp [intOf]; omega
    · obtain rfl : k = f.length := by omega
      have hfin : splitF f = (regs, num) := by rw [← HG.out, List.drop_length]; rfl
      go_wp2_with fail
      go_ret2
      exact ⟨rfl, rfl⟩
end Go.Proofs.YtmoplcchiadlpaaDoor.Jc
