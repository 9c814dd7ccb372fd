/- code.number, code.width, code.fits: a number in bytes. -/
import Derived.Test.YtmoplcchiadlpaaDoorJcMem
import Derived.Test.YtmoplcchiadlpaaDoorJc1
import Derived.WalkLawsBesides
import Derived.WalkSpells
import Derived.Lib.Hide
set_option linter.unusedVariables false
set_option linter.unusedSimpArgs false
namespace Go.Proofs.YtmoplcchiadlpaaDoor.Jc
open Go Go.RowKit Go.ChangeMaps Go.Proofs.YtmoplcchiadlpaaDoorW.PrintWords

set_option maxRecDepth 100000 in
set_option maxHeartbeats 2000000 in
theorem width_any (x : UInt8) (far : Bool) (w : World) :
    Calls Tryd.prog 52 #[.int .u8 x.toNat, .bool far] w fun e w' => e = .returned (.tuple #[.int .i64 (widthF x far).1, .int .i64 (widthF x far).2.1, .int .i64 (widthF x far).2.2]) ∧ w = w' := by
  by_cases h104 : x = 104
  · subst h104
    cases far <;> (go_enter Tryd.func52, Tryd.ntmps52; go_wp2_with fail; go_ret3; exact ⟨rfl, rfl⟩)
  by_cases h119 : x = 119
  · subst h119
    cases far <;> (go_enter Tryd.func52, Tryd.ntmps52; go_wp2_with fail; go_ret3; exact ⟨rfl, rfl⟩)
  by_cases h105 : x = 105
  · subst h105
    cases far <;> (go_enter Tryd.func52, Tryd.ntmps52; go_wp2_with fail; go_ret3; exact ⟨rfl, rfl⟩)
  by_cases h115 : x = 115
  · subst h115
    cases far <;> (go_enter Tryd.func52, Tryd.ntmps52; go_wp2_with fail; go_ret3; exact ⟨rfl, rfl⟩)
  by_cases h117 : x = 117
  · subst h117
    cases far <;> (go_enter Tryd.func52, Tryd.ntmps52; go_wp2_with fail; go_ret3; exact ⟨rfl, rfl⟩)
  by_cases h112 : x = 112
  · subst h112
    cases far <;> (go_enter Tryd.func52, Tryd.ntmps52; go_wp2_with fail; go_ret3; exact ⟨rfl, rfl⟩)
  by_cases h110 : x = 110
  · subst h110
    cases far <;> (go_enter Tryd.func52, Tryd.ntmps52; go_wp2_with fail; go_ret3; exact ⟨rfl, rfl⟩)
  by_cases h101 : x = 101
  · subst h101
    cases far <;> (go_enter Tryd.func52, Tryd.ntmps52; go_wp2_with fail; go_ret3; exact ⟨rfl, rfl⟩)
  by_cases h116 : x = 116
  · subst h116
    cases far <;> (go_enter Tryd.func52, Tryd.ntmps52; go_wp2_with fail; go_ret3; exact ⟨rfl, rfl⟩)
  have hne : ∀ c : UInt8, x ≠ c → ((x.toNat : Int) == (c.toNat : Int)) = false := fun c h => by
    rw [beq_eq_false_iff_ne]
    intro e
    exact h (UInt8.toNat_inj.1 (by omega))
  have n104 : ((x.toNat : Int) == 104) = false := hne 104 h104
  have n119 : ((x.toNat : Int) == 119) = false := hne 119 h119
  have n105 : ((x.toNat : Int) == 105) = false := hne 105 h105
  have n115 : ((x.toNat : Int) == 115) = false := hne 115 h115
  have n117 : ((x.toNat : Int) == 117) = false := hne 117 h117
  have n112 : ((x.toNat : Int) == 112) = false := hne 112 h112
  have n110 : ((x.toNat : Int) == 110) = false := hne 110 h110
  have n101 : ((x.toNat : Int) == 101) = false := hne 101 h101
  have n116 : ((x.toNat : Int) == 116) = false := hne 116 h116
  have hw : widthF x far = if far = true then (3, -8388608, 8388607) else (1, -128, 127) := by
    unfold widthF
    rw [if_neg h104, if_neg h119, if_neg h105, if_neg h115, if_neg h117, if_neg h112, if_neg h110, if_neg h101]
    simp [h116]
  rw [hw]
  clear hne hw h104 h119 h105 h115 h117 h112 h110 h101 h116
  generalize (x.toNat : Int) = n at *
  cases far <;> (go_enter Tryd.func52, Tryd.ntmps52; go_wp2_with fail; go_ret3; exact ⟨rfl, rfl⟩)

theorem info_u8 : (Tryd.prog.info? 5).map (fun i => (i.zero, i.size, i.bytes)) = some (some (.int .u8 0), 1, 1) := by kernel_rfl

theorem numB_length (n : Int) : ∀ k, (numB n k).length = k
  | 0 => rfl
  | k + 1 => by simp [numB, numB_length n k]
theorem numB_at (n : Int) : ∀ k i, i < k → (numB n k).getD (k - 1 - i) 0 = byteAt n i
  | 0, i, h => by omega
  | k + 1, i, h => by
    by_cases e : i = k
    · subst e
      simp [numB]
    · have : k + 1 - 1 - i = (k - 1 - i) + 1 := by omega
      rw [this]
      simp only [numB, List.getD_cons_succ]
      exact numB_at n k i (by omega)

def asInts (l : List UInt8) : List Int := l.map fun b => (b.toNat : Int)
theorem str_asInts (l : List UInt8) : strOfNums (asInts l) = bs l := by
  unfold strOfNums asInts
  rw [List.map_map]
  have : ((fun n : Int => UInt8.ofNat n.toNat) ∘ fun b : UInt8 => (b.toNat : Int)) = id := by
    funext b
    simp
  rw [this, List.map_id]
theorem byteAt_int (n : Int) (k : Nat) : ((byteAt n k).toNat : Int) = (n / 256 ^ k) % 256 := by
  unfold byteAt
  have h1 : 0 ≤ (n / 256 ^ k) % 256 := Int.emod_nonneg _ (by decide)
  have h2 : (n / 256 ^ k) % 256 < 256 := Int.emod_lt_of_pos _ (by decide)
  rw [UInt8.toNat_ofNat']
  omega

set_option maxRecDepth 100000 in
set_option maxHeartbeats 1000000 in
theorem number_any (n : Int) (k : Nat) (hk : k ≤ 4) (w : World) :
    Calls Tryd.prog 35 #[.int .i64 n, .int .i64 k] w fun e w' => e = .returned (.string (bs (numB n k))) ∧ Below w.heap.size w w' := by
  go_enter Tryd.func35, Tryd.ntmps35
  go_wp2_with fail
  go_loopw [5, 6] (fun v i wr => ∃ j : Nat, j ≤ k ∧ i = .int .i64 ((j : Int) - 1) ∧ Aside0 (wr.ownsRow w.heap.size 5 1 v (asInts ((numB n k).take (k - j))).length (nums .u8 (asInts ((numB n k).take (k - j))))) ∧ Aside0 (Below w.heap.size w wr)) (fun _ i _ => (intOf i + 1).toNat)
  case atStart => exact ⟨k, Nat.le_refl _, rfl, ⟨by rw [Nat.sub_self]; exact own_nil _ _ _ _⟩, ⟨Below.refl _ _⟩⟩
  case round =>
    obtain ⟨j, hj, rfl, HO, HB⟩ := hrel
    cases j with
    | zero =>
      have hcv := own_string (P := Tryd.prog) Tryd.underlying43 Tryd.underlying5 Tryd.underlying9 HO.out
      rw [str_asInts, Nat.sub_zero, show (numB n k).take k = numB n k from by rw [List.take_of_length_le (by rw [numB_length]; exact Nat.le_refl _)]] at hcv
      go_wp2_with fail
      go_ret
      exact ⟨rfl, HB.out⟩
    | succ j =>
      have hstep : asInts ((numB n k).take (k - j)) = asInts ((numB n k).take (k - (j + 1))) ++ [n / 2 ^ (8 * j) % 256] := by
        have e : k - j = (k - (j + 1)) + 1 := by omega
        rw [e, take_snoc _ _ (0 : UInt8) (by rw [numB_length]; omega), show k - (j + 1) = k - 1 - j by omega, numB_at n k j (by omega)]
        unfold asInts
        rw [List.map_append, List.map_cons, List.map_nil, byteAt_int, show (256 : Int) ^ j = 2 ^ (8 * j) by rw [Int.pow_mul]; rfl]
      have HST := Lib.hid hstep
      clear hstep
      have hlen : (asInts ((numB n k).take (k - (j + 1)))).length ≤ 4 := by
        unfold asInts
        rw [List.length_map]
        have := List.length_take_le (k - (j + 1)) (numB n k)
        omega
      go_wp2_with (at_builtin; refine print_append_num w.heap.size rfl (.tmp 13) (.tmp 19) 43 5 .u8 1 rfl Tryd.underlying43 info_u8 (by decide) _ (asInts ((numB n k).take (k - (j + 1)))) (n / 2 ^ (8 * j) % 256) rfl rfl HO.out HB.out HB.out.size (by omega) ?_; intro v1 w1 hown hB hg hat)
      go_roundw
      case rel => exact ⟨j, by omega, by go_num, ⟨by rw [HST.out]; exact hown⟩, ⟨hB⟩⟩
      case measure => simp [intOf]

/-- fits, where the number fits. -/
theorem fits_ok (n : Int) (x : UInt8) (far : Bool) (e : Int) (h1 : (widthF x far).2.1 ≤ n) (h2 : n ≤ (widthF x far).2.2) (hw : (widthF x far).1 ≤ 4) (w : World) :
    Calls Tryd.prog 37 #[.int .i64 n, .int .u8 x.toNat, .bool far, .int .i64 e] w fun e' w' => e' = .returned (.string (bs (numB n (widthF x far).1))) ∧ Below w.heap.size w w' := by
  have HW := Lib.hid (fun W => width_any x far W)
  generalize widthF x far = q at *
  obtain ⟨b, lo, hi⟩ := q
  dsimp only at h1 h2 hw
  go_enter Tryd.func37, Tryd.ntmps37
  go_wp2_with fail
  refine (HW.out _).mono ?_
  rintro e1 w1 ⟨rfl, rfl⟩
  go_wp2_with fail
  refine (must_ok e _).mono ?_
  rintro e1 w1 ⟨rfl, rfl⟩
  go_wp2_with fail
  refine (number_any n b hw _).mono ?_
  rintro e1 w1 ⟨rfl, hb⟩
  go_wp2_with fail
  go_ret
  exact ⟨rfl, hb⟩

set_option maxRecDepth 100000 in
/-- fits, where it does not. -/
theorem fits_no (n : Int) (x : UInt8) (far : Bool) (e : Int) (h : ¬ ((widthF x far).2.1 ≤ n ∧ n ≤ (widthF x far).2.2)) (w : World) :
    Calls Tryd.prog 37 #[.int .i64 n, .int .u8 x.toNat, .bool far, .int .i64 e] w fun e' w' => e' = .panicked [{ v := trouble e, recovered := false }] ∧ w = w' := by
  have HW := Lib.hid (fun W => width_any x far W)
  generalize widthF x far = q at *
  obtain ⟨b, lo, hi⟩ := q
  dsimp only at h
  have h' : n < lo ∨ (lo ≤ n ∧ hi < n) := by omega
  clear h
  have h2' : (decide (lo ≤ n) = false) ∨ (decide (lo ≤ n) = true ∧ decide (n ≤ hi) = false) := by
    rcases h' with h | ⟨h, h2⟩
    · exact .inl (by simp; omega)
    · exact .inr ⟨by simpa using h, by simp; omega⟩
  clear h'
  rcases h2' with h | ⟨h, h2⟩
  all_goals
    go_enter Tryd.func37, Tryd.ntmps37
    go_wp2_with fail
    refine (HW.out _).mono ?_
    rintro e1 w1 ⟨rfl, rfl⟩
    go_wp2_with fail
    refine (must_no e _).mono ?_
    rintro e1 w1 ⟨rfl, rfl⟩
    go_wp2_with fail
    exact ⟨rfl, rfl, rfl⟩
end Go.Proofs.YtmoplcchiadlpaaDoor.Jc
