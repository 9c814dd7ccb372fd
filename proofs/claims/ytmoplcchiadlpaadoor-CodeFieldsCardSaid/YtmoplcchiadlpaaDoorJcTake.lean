/- code.Get's take: the number of the next bytes. -/
import Derived.Test.YtmoplcchiadlpaaDoorJcSpec3
import Derived.Test.YtmoplcchiadlpaaDoorJcMem2
import Derived.Test.YtmoplcchiadlpaaDoorJc1
import Derived.Laws.BitsAllLaws
import Derived.Laws.Bits128
set_option linter.unusedVariables false
set_option linter.unusedSimpArgs false
namespace Go.Proofs.YtmoplcchiadlpaaDoor.Jc
open Go Go.RowKit Go.ChangeMaps Go.Proofs.YtmoplcchiadlpaaDoorW.PrintWords

/-- The number of bytes, the highest first. -/
def beGo : Int → List UInt8 → Int
  | n, [] => n
  | n, b :: r => beGo (256 * n + (b.toNat : Int)) r
def beNum (l : List UInt8) : Int := beGo 0 l
theorem beGo_append : ∀ (l r : List UInt8) (n : Int), beGo n (l ++ r) = beGo (beGo n l) r
  | [], r, n => rfl
  | x :: l, r, n => beGo_append l r _
theorem beNum_snoc (l : List UInt8) (b : UInt8) : beNum (l ++ [b]) = 256 * beNum l + (b.toNat : Int) := beGo_append l [b] 0
theorem beNum_range : ∀ (l : List UInt8), 0 ≤ beNum l ∧ beNum l < 256 ^ l.length := by
  have h : ∀ (l : List UInt8) (n : Int), 0 ≤ n → 0 ≤ beGo n l ∧ beGo n l < (n + 1) * 256 ^ l.length := by
    intro l
    induction l with
    | nil => intro n hn; simp [beGo]; omega
    | cons b r ih =>
      intro n hn
      have hb : (b.toNat : Int) < 256 := by have := b.toNat_lt; omega
      have h2 := ih (256 * n + (b.toNat : Int)) (by omega)
      refine ⟨h2.1, Int.lt_of_lt_of_le h2.2 ?_⟩
      rw [List.length_cons, Int.pow_succ, Int.mul_comm (256 ^ r.length) 256, ← Int.mul_assoc]
      exact Int.mul_le_mul_of_nonneg_right (by omega) (Int.le_of_lt (Int.pow_pos (by decide)))
  intro l
  have := h l 0 (Int.le_refl 0)
  simpa [beNum] using this

theorem i64_or_nat (a b : Nat) (ha : a < 9223372036854775808) (hb : b < 9223372036854775808) : bits .or .i64 (a : Int) (b : Int) = ((a ||| b : Nat) : Int) := by
  have hx : a ||| b < 2 ^ 63 := Nat.or_lt_two_pow (by omega) (by omega)
  show IntKind.i64.wrap ((BitVec.ofInt 64 (a : Int) ||| BitVec.ofInt 64 (b : Int)).toNat : Int) = _
  rw [BitVec.toNat_or, ofInt_u64 a (by omega), ofInt_u64 b (by omega), IntKind.wrap_i64]
  omega
theorem i64_and15 (n : Int) : bits .and .i64 n 15 = n % 16 := by
  have h15 : (BitVec.ofInt 64 15).toNat = 2 ^ 4 - 1 := by decide
  have key : (BitVec.ofInt 64 n &&& BitVec.ofInt 64 15).toNat = (n % ((2 ^ 64 : Nat) : Int)).toNat % 2 ^ 4 := by
    rw [BitVec.toNat_and, BitVec.toNat_ofInt, h15, Nat.and_two_pow_sub_one_eq_mod]
  show IntKind.i64.wrap ((BitVec.ofInt 64 n &&& BitVec.ofInt 64 15).toNat : Nat) = n % 16
  rw [key, IntKind.wrap_i64]
  omega
theorem pow_small (L : Nat) (h : L ≤ 3) : (256 : Int) ^ L ≤ 16777216 := by
  have : L = 0 ∨ L = 1 ∨ L = 2 ∨ L = 3 := by omega
  rcases this with rfl | rfl | rfl | rfl <;> decide
theorem or_byte (a b : Int) (ha : 0 ≤ a) (ha2 : a < 16777216) (hb : 0 ≤ b) (hb2 : b < 256) : bits .or .i64 (wrap64 (a * 256)) (wrap64 b) = 256 * a + b := by
  have e1 : wrap64 (a * 256) = a * 256 := by unfold wrap64; omega
  have e2 : wrap64 b = b := by unfold wrap64; omega
  rw [e1, e2]
  obtain ⟨x, rfl⟩ : ∃ x : Nat, a = x := ⟨a.toNat, by omega⟩
  obtain ⟨y, rfl⟩ : ∃ y : Nat, b = y := ⟨b.toNat, by omega⟩
  have h : 2 ^ 8 * x + y = 2 ^ 8 * x ||| y := Nat.two_pow_add_eq_or_of_lt (by omega) x
  rw [show ((x : Int) * 256) = ((2 ^ 8 * x : Nat) : Int) by omega, i64_or_nat _ _ (by omega) (by omega), ← h]
  omega
set_option maxRecDepth 100000 in
set_option maxHeartbeats 1000000 in
theorem take_no (k : Nat) (hk : k ≤ 4) (s : List UInt8) (at0 : Nat) (p q : Nat) (w : World) (hs : w.cell? ⟨p, 0, none⟩ = some (.string (bs s))) (ha : w.cell? ⟨q, 0, none⟩ = some (.int .i64 at0)) (hle : at0 ≤ s.length) (hlen : s.length ≤ 1000000000) (hno : s.length < at0 + k) :
    Calls Tryd.prog 59 #[.int .i64 k, .pointer (some ⟨p, 0, none⟩), .pointer (some ⟨q, 0, none⟩)] w fun e w' => e = .panicked [{ v := trouble 62, recovered := false }] ∧ w = w' := by
  have hsz : (bs s).size = s.length := bs_size _
  have hw : IntKind.i64.wrap ((s.length : Int) - at0) = s.length - at0 := wrap_i64 (by omega) (by omega)
  have hd : decide ((k : Int) ≤ (s.length : Int) - at0) = false := by simp; omega
  go_enter Tryd.func59, Tryd.ntmps59
  go_wp2_with fail
  refine (must_no 62 _).mono ?_
  rintro e w2 ⟨rfl, rfl⟩
  go_wp2_with fail
  exact ⟨rfl, rfl, rfl⟩

set_option maxRecDepth 100000 in
set_option maxHeartbeats 1000000 in
theorem take_ok (k : Nat) (hk : k ≤ 4) (s : List UInt8) (at0 : Nat) (p q : Nat) (hpq : p ≠ q) (w : World) (hs : w.cell? ⟨p, 0, none⟩ = some (.string (bs s))) (ha : w.heap[q]? = some (.cells #[.int .i64 at0] 3 (0, 0))) (hlen : s.length ≤ 1000000000) (hok : at0 + k ≤ s.length) :
    Calls Tryd.prog 59 #[.int .i64 k, .pointer (some ⟨p, 0, none⟩), .pointer (some ⟨q, 0, none⟩)] w fun e w' => e = .returned (.int .i64 (beNum ((s.drop at0).take k))) ∧ w.grownBy w' (some q) ∧ w'.heap[q]? = some (.cells #[.int .i64 ((at0 + k : Nat) : Int)] 3 (0, 0)) := by
  have hsz : (bs s).size = s.length := bs_size _
  have hw : IntKind.i64.wrap ((s.length : Int) - at0) = s.length - at0 := wrap_i64 (by omega) (by omega)
  have hd : decide ((k : Int) ≤ (s.length : Int) - at0) = true := by simp; omega
  have ha0 : w.cell? ⟨q, 0, none⟩ = some (.int .i64 at0) := (cell_blk ha 0).trans rfl
  have HA := Lib.hid ha
  have HS := Lib.hid hs
  have hpl := World.block_lt_of_cell? w ⟨p, 0, none⟩ hs
  clear ha
  go_enter Tryd.func59, Tryd.ntmps59
  go_wp2_with fail
  refine (must_ok 62 _).mono ?_
  rintro e w2 ⟨rfl, rfl⟩
  go_wp2_with fail
  go_loopw [5, 14] (fun n i wr => ∃ j : Nat, i = .int .i64 (j : Int) ∧ j ≤ k ∧ n = .int .i64 (beNum ((s.drop at0).take j)) ∧ Aside0 (wr.heap[q]? = some (.cells #[.int .i64 ((at0 + j : Nat) : Int)] 3 (0, 0))) ∧ Aside0 (w.grownBy wr (some q))) (fun _ i _ => k - (intOf i).toNat)
  case atStart => exact ⟨0, rfl, by omega, rfl, ⟨HA.out⟩, ⟨World.grownBy.refl _ _⟩⟩
  case round =>
    clear hs ha0 hd hw
    obtain ⟨j, rfl, hj, rfl, HQ, HG⟩ := hrel
    by_cases hlt : j < k
    · have hs1 : wr.cell? ⟨p, 0, none⟩ = some (.string (bs s)) := by
        rw [← HS.out]
        exact World.cell?_of_block (HG.out.block p hpl (by simpa using hpq))
      have ha1 : wr.cell? ⟨q, 0, none⟩ = some (.int .i64 ((at0 + j : Nat) : Int)) := (cell_blk HQ.out 0).trans rfl
      have z1 : wr.frozen? ⟨q, 0, none⟩ = false := froz_blk HQ.out 0
      go_wp2_with fail
      go_roundw
      case rel =>
        have hd : (s.drop at0).take (j + 1) = (s.drop at0).take j ++ [(bs s)[at0 + j]'(by rw [hsz]; omega)] := by
          rw [List.take_succ_eq_append_getElem (by rw [List.length_drop]; omega), List.getElem_drop]
          rfl
        have hr := beNum_range ((s.drop at0).take j)
        have hl : ((s.drop at0).take j).length ≤ 3 := by rw [List.length_take]; omega
        have hp := pow_small _ hl
        have hb := ((bs s)[at0 + j]'(by rw [hsz]; omega)).toNat_lt
        refine ⟨j + 1, by go_num, by omega, ?_, ⟨?_⟩, ⟨grown_set HG.out 0 _⟩⟩
        · rw [hd, beNum_snoc, or_byte _ _ hr.1 (by omega) (by omega) (by omega)]
        · rw [set_blk1 HQ.out]
          congr 5
      case measure => simp [intOf]; omega
    · obtain rfl : j = k := by omega
      go_wp2_with fail
      go_ret
      exact ⟨rfl, HG.out, HQ.out⟩
end Go.Proofs.YtmoplcchiadlpaaDoor.Jc
