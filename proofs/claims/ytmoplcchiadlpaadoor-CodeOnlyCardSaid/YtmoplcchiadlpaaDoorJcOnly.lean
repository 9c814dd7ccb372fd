/- jacquardlaw18.CodeOnly, walked: it returns true. -/
import Derived.Test.YtmoplcchiadlpaaDoorJcFar
import Derived.Test.YtmoplcchiadlpaaDoorJcPlain2
set_option linter.unusedVariables false
set_option linter.unusedSimpArgs false
namespace Go.Proofs.YtmoplcchiadlpaaDoor.Jc
open Go Go.RowKit Go.ChangeMaps Go.Proofs.YtmoplcchiadlpaaDoorW.PrintWords

theorem bs_cut (l : List UInt8) (k : Nat) : (bs l).extract 0 k = bs (l.take k) := by
  apply ByteArray.ext
  apply Array.toList_inj.1
  simp [ByteArray.data_extract]
theorem cut_min (l : List UInt8) (k : Nat) : (bs l).extract 0 (min (l.length : Int) k).toNat = bs (l.take k) := by
  rw [bs_cut]
  by_cases h : l.length ≤ k
  · rw [List.take_of_length_le h, List.take_of_length_le (by omega)]
  · rw [show (min (l.length : Int) k).toNat = k by omega]
theorem emod_lt_nat (x : Int) (n : Nat) (h : 1 ≤ n) : (x % (n : Int)).toNat < n ∧ 0 ≤ x % (n : Int) ∧ x % (n : Int) < n := by
  have h1 := Int.emod_nonneg x (show (n : Int) ≠ 0 by omega)
  have h2 := Int.emod_lt_of_pos x (show (0 : Int) < n by omega)
  omega
theorem bs_of (s : ByteArray) : ∃ l, s = bs l := ⟨s.data.toList, by apply ByteArray.ext; simp⟩

set_option maxRecDepth 100000 in
set_option maxHeartbeats 2000000 in
theorem only_walk (s : ByteArray) (cut : Int) (hs : s.size ≤ 9223372036854775807) (hc : In64 cut) (w : World) (htab : Lib.TabIs Tryd.prog w "strings.asciiSpace" .u8 Lib.asciiSpaceTab) (hpow : Lib.TabIs Tryd.prog w "internal/strconv.uint64pow10" .u64 Lib.pow10Tab) :
    Calls Tryd.prog 7 #[.string s, .int .i64 cut] w fun e w' => e = .returned (.bool true) ∧ Below w.heap.size w w' := by
  have HT := Lib.hid htab
  have HP := Lib.hid hpow
  have a1 := i64_mask16
  clear htab hpow
  obtain ⟨l, rfl⟩ := bs_of s
  have hsz := bs_size l
  rw [hsz] at hs
  go_enter Tryd.func7, Tryd.ntmps7
  go_wp2_with fail
  refine (shown_any _ HT.out HP.out).mono ?_
  rintro e w1 ⟨rfl, hb1⟩
  have HB1 := Lib.hid hb1
  clear hb1
  go_wp2_with fail
  rw [show (bs l).extract 0 (min (l.length : Int) 300).toNat = bs (l.take 300) from cut_min l 300]
  have hL : (l.take 300).length ≤ 300 := by rw [List.length_take]; omega
  generalize l.take 300 = L at hL ⊢
  have hszL := bs_size L
  have HI := Lib.hid (getI_in L)
  refine (get_any L (by omega) _ (tabIs_below HT.out HB1.out)).mono ?_
  rintro e w2 ⟨a, c, rfl, hb, har, hfr⟩
  have HB2 := Lib.hid (below_step HB1.out hb)
  have HA := Lib.hid har
  clear hb har hfr HB1
  by_cases he : getE L = 0
  · obtain ⟨n, hn, n1, n2, hp, hpe, hcut⟩ := getS_only he
    obtain ⟨k1, k2, k3⟩ := emod_lt_nat (cut % 65536) n n1
    have hk := hcut (cut % 65536 % (n : Int)).toNat k1
    have hput := fun W hW => put_any (getI L) HI.out a c W (HA.out.below hW) (tabIs_below HT.out (below_step HB2.out hW))
    rw [hp, hpe] at hput
    rw [hn, he]
    unfold cellsM at hput ⊢
    have HPT := Lib.hid hput
    have hgk := get_any (L.take (cut % 65536 % (n : Int)).toNat) (by rw [List.length_take]; omega)
    unfold GotBack at hgk
    rw [hk.1, hk.2] at hgk
    have HGK := Lib.hid hgk
    generalize getI L = I at HPT HA HI ⊢
    clear hput hgk hk hcut hn he hp hpe
    go_wp2_with fail
    have hK := alloc_at w2 (.cells #[.int .i64 I.op, .int .i64 I.d, .int .i64 I.e, .int .i64 I.a, .int .i64 I.b, .int .i64 I.c, .int .i32 I.imm, .slice a I.args.length c] 24)
    have hbW := below_alloc (Below.refl w2.heap.size w2) (.cells #[.int .i64 I.op, .int .i64 I.d, .int .i64 I.e, .int .i64 I.a, .int .i64 I.b, .int .i64 I.c, .int .i32 I.imm, .slice a I.args.length c] 24)
    refine (HPT.out _ hbW).mono ?_
    rintro e w3 ⟨rfl, hb⟩
    have HB3 := Lib.hid (below_step HB2.out (below_step hbW hb))
    clear hK hbW hb HPT HB2 HA
    have hm : (cut % 65536).tmod (n : Int) = cut % 65536 % (n : Int) := Int.tmod_eq_emod_of_nonneg (by omega)
    go_wp2_with fail
    rw [bs_cut]
    refine (HGK.out _ (tabIs_below HT.out HB3.out)).mono ?_
    rintro e w4 ⟨a4, c4, rfl, hb, _, _⟩
    have HB4 := Lib.hid (below_step HB3.out hb)
    unfold cellsM
    generalize getI (L.take (cut % 65536 % (n : Int)).toNat) = g4
    have hex : (bs L).extract 0 n = bs (L.take n) := bs_cut L n
    clear hb hm
    go_wp2_with fail
    go_ret
    exact ⟨by simp, below_alloc HB4.out _⟩
  · obtain ⟨h1, h2, h3⟩ := getS_none he
    have hb : (getE L != 0) = true := by simpa using he
    have hb2 : (getE L == 0) = false := by simpa using he
    rw [h1, h2]
    unfold cellsM zeroM
    clear he h1 h2 h3
    go_wp2_with fail
    go_ret
    exact ⟨rfl, below_alloc HB2.out _⟩
end Go.Proofs.YtmoplcchiadlpaaDoor.Jc
