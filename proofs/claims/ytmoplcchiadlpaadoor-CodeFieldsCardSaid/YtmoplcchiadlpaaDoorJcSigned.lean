/- code.Get's signed: a number with a sign, if it may be one. -/
import Derived.Test.YtmoplcchiadlpaaDoorJcTake
set_option linter.unusedVariables false
set_option linter.unusedSimpArgs false
namespace Go.Proofs.YtmoplcchiadlpaaDoor.Jc
open Go Go.RowKit Go.ChangeMaps Go.Proofs.YtmoplcchiadlpaaDoorW.PrintWords

def sgnV (x : UInt8) (far : Bool) (n : Int) : Int := if (widthF x far).2.1 < 0 ∧ (2 : Int) ^ (8 * (widthF x far).1 - 1) ≤ n then n - (2 : Int) ^ (8 * (widthF x far).1) else n
theorem width_forms (x : UInt8) (far : Bool) : ((widthF x far).1 = 2 ∧ (widthF x far).2.1 = -32768) ∨ ((widthF x far).1 = 4 ∧ (widthF x far).2.1 = -2147483648) ∨ ((widthF x far).1 = 1 ∧ (widthF x far).2.1 = -128) ∨ ((widthF x far).1 = 1 ∧ (widthF x far).2.1 = 0) ∨ ((widthF x far).1 = 2 ∧ (widthF x far).2.1 = 0) ∨ ((widthF x far).1 = 3 ∧ (widthF x far).2.1 = -8388608) := by
  unfold widthF
  repeat' split
  all_goals simp
theorem callTake (cap : Array Value) (w : World) : (callFunc 59 cap).run Tryd.prog w = .ok (.enter 59 cap) w := by
  kernel_rfl
theorem callSigned (cap : Array Value) (w : World) : (callFunc 60 cap).run Tryd.prog w = .ok (.enter 60 cap) w := by
  kernel_rfl
def takeFn (p q : Nat) : Value := .func (.func 59) #[] #[.pointer (some ⟨p, 0, none⟩), .pointer (some ⟨q, 0, none⟩)]

set_option maxRecDepth 100000 in
set_option maxHeartbeats 2000000 in
theorem signed_no (x : UInt8) (far : Bool) (s : List UInt8) (at0 : Nat) (p q r : Nat) (w : World) (hs : w.cell? ⟨p, 0, none⟩ = some (.string (bs s))) (ha : w.cell? ⟨q, 0, none⟩ = some (.int .i64 at0)) (ht : w.cell? ⟨r, 0, none⟩ = some (takeFn p q)) (hle : at0 ≤ s.length) (hlen : s.length ≤ 1000000000) (hno : s.length < at0 + (widthF x far).1) :
    Calls Tryd.prog 60 #[.int .u8 x.toNat, .bool far, .pointer (some ⟨r, 0, none⟩)] w fun e w' => e = .panicked [{ v := trouble 62, recovered := false }] ∧ w = w' := by
  have hcf := callTake
  have HW := Lib.hid (fun W => width_any x far W)
  have HT := Lib.hid (take_no _ (width_le x far) s at0 p q w hs ha hle hlen hno)
  clear hs ha hno
  unfold takeFn at ht
  generalize widthF x far = wd at HW HT
  obtain ⟨k, lo, hi⟩ := wd
  go_enter Tryd.func60, Tryd.ntmps60
  go_wp2_with fail
  refine (HW.out _).mono ?_
  rintro e w2 ⟨rfl, rfl⟩
  go_wp2_with fail
  refine HT.out.mono ?_
  rintro e w2 ⟨rfl, rfl⟩
  go_wp2_with fail
  exact ⟨rfl, rfl, rfl⟩

set_option maxRecDepth 100000 in
set_option maxHeartbeats 4000000 in
theorem signed_ok (x : UInt8) (far : Bool) (s : List UInt8) (at0 : Nat) (p q r : Nat) (hpq : p ≠ q) (w : World) (hs : w.cell? ⟨p, 0, none⟩ = some (.string (bs s))) (ha : w.heap[q]? = some (.cells #[.int .i64 at0] 3 (0, 0))) (ht : w.cell? ⟨r, 0, none⟩ = some (takeFn p q)) (hlen : s.length ≤ 1000000000) (hok : at0 + (widthF x far).1 ≤ s.length) :
    Calls Tryd.prog 60 #[.int .u8 x.toNat, .bool far, .pointer (some ⟨r, 0, none⟩)] w fun e w' => e = .returned (.int .i64 (sgnV x far (beNum ((s.drop at0).take (widthF x far).1)))) ∧ w.grownBy w' (some q) ∧ w'.heap[q]? = some (.cells #[.int .i64 ((at0 + (widthF x far).1 : Nat) : Int)] 3 (0, 0)) := by
  have hcf := callTake
  have HW := Lib.hid (fun W => width_any x far W)
  have HT := Lib.hid (take_ok _ (width_le x far) s at0 p q hpq w hs ha hlen hok)
  have hr := beNum_range ((s.drop at0).take (widthF x far).1)
  have hl : ((s.drop at0).take (widthF x far).1).length = (widthF x far).1 := by rw [List.length_take, List.length_drop]; omega
  rw [hl] at hr
  unfold sgnV
  clear hs ha hok hl
  unfold takeFn at ht
  have hforms := width_forms x far
  generalize beNum ((s.drop at0).take (widthF x far).1) = n at HT hr ⊢
  generalize widthF x far = wd at HW HT hforms hr ⊢
  obtain ⟨k, lo, hi⟩ := wd
  dsimp only at *
  rcases hforms with ⟨rfl, rfl⟩ | ⟨rfl, rfl⟩ | ⟨rfl, rfl⟩ | ⟨rfl, rfl⟩ | ⟨rfl, rfl⟩ | ⟨rfl, rfl⟩
  all_goals
    simp at hr
    go_enter Tryd.func60, Tryd.ntmps60
    go_wp2_with fail
    refine (HW.out _).mono ?_
    rintro e w2 ⟨rfl, rfl⟩
    go_wp2_with fail
    refine HT.out.mono ?_
    rintro e w2 ⟨rfl, hg, hq⟩
    have HG := Lib.hid hg
    have HQ := Lib.hid hq
    clear hg hq
    go_wp2_with fail
    all_goals
      go_ret
      refine ⟨?_, HG.out, HQ.out⟩
      simp
      try omega
end Go.Proofs.YtmoplcchiadlpaaDoor.Jc
