import Derived.Test.YtmoplcchiadlpaaDoorKSx0
import Derived.Test.YtmoplcchiadlpaaDoorKSx1
import Derived.Test.YtmoplcchiadlpaaDoorKSx2
import Derived.Test.YtmoplcchiadlpaaDoorKSx3
namespace Go.Proofs.YtmoplcchiadlpaaDoor.S
open Go.RowKit Go.Proofs.YtmoplcchiadlpaaDoorW.PrintWords Go.Proofs.YtmoplcchiadlpaaDoorW.PrintLast Go.Proofs.YtmoplcchiadlpaaDoorW.PrintMore
attribute [local go_sem] max2_int min2_int max_two min_two max_three min_three max_four min_four   -- for this text's walks alone
set_option linter.unusedVariables false
set_option linter.unusedSimpArgs false

/-! ### jacquardref18_Put: function 18 -/
mutual
def jacquardref18_Put.j0 : Nat → Bool → Int → Int → Int → Int → Int → Int → Int → List Int → Option (ByteArray × Int)
 | 0, _, _, _, _, _, _, _, _, _ => none
 | k + 1, x4, x151000, x151001, x151002, x151003, x151004, x151005, x151006, x151007 => (jacquardref18_Bytes.f k x151000 1).bind fun t153 => (if x4 = true then ((jacquardref18_Bytes.f k (wrap64 (x151000 + 128)) 1).bind fun t154 => (jacquardref18_Put.j1 k x4 t154 x151000 x151001 x151002 x151003 x151004 x151005 x151006 x151007)) else (jacquardref18_Put.j1 k x4 t153 x151000 x151001 x151002 x151003 x151004 x151005 x151006 x151007))
def jacquardref18_Put.j1 : Nat → Bool → ByteArray → Int → Int → Int → Int → Int → Int → Int → List Int → Option (ByteArray × Int)
 | 0, _, _, _, _, _, _, _, _, _, _ => none
 | k + 1, x4, x5, x151000, x151001, x151002, x151003, x151004, x151005, x151006, x151007 => (jacquardref18_Regs.f k x151000 x151001 x151002 x151003 x151004 x151005 x151006 x151007).bind fun t155 => (jacquardref18_Put.l0 k x4 x5 t155 0 x151000 x151001 x151002 x151003 x151004 x151005 x151006 x151007)
def jacquardref18_Put.l0 : Nat → Bool → ByteArray → List Int → Int → Int → Int → Int → Int → Int → Int → Int → List Int → Option (ByteArray × Int)
 | 0, _, _, _, _, _, _, _, _, _, _, _, _ => none
 | k + 1, x4, x5, x6, x7, x151000, x151001, x151002, x151003, x151004, x151005, x151006, x151007 => if x7 < (x6.length : Int) then (if 0 ≤ x7 then (if (rd x6 x7) < 0 then (some ((⟨#[]⟩ : ByteArray), 31)) else (if (rd x6 x7) > 15 then (some ((⟨#[]⟩ : ByteArray), 31)) else (jacquardref18_Put.l0 k x4 x5 x6 (wrap64 (x7 + 1)) x151000 x151001 x151002 x151003 x151004 x151005 x151006 x151007))) else (none)) else (jacquardref18_Put.l1 k x4 x5 x6 0 x151000 x151001 x151002 x151003 x151004 x151005 x151006 x151007)
def jacquardref18_Put.l1 : Nat → Bool → ByteArray → List Int → Int → Int → Int → Int → Int → Int → Int → Int → List Int → Option (ByteArray × Int)
 | 0, _, _, _, _, _, _, _, _, _, _, _, _ => none
 | k + 1, x4, x5, x6, x8, x151000, x151001, x151002, x151003, x151004, x151005, x151006, x151007 => if x8 < (x6.length : Int) then (if (wrap64 (x8 + 1)) < (x6.length : Int) then (if 0 ≤ (wrap64 (x8 + 1)) then (if 0 ≤ x8 then ((jacquardref18_Bytes.f k (wrap64 ((wrap64 (16 * (rd x6 x8))) + (rd x6 (wrap64 (x8 + 1))))) 1).bind fun t162 => (if x5.size + t162.size ≤ 9223372036854775807 then (jacquardref18_Put.l1 k x4 (x5 ++ t162) x6 (wrap64 (x8 + 2)) x151000 x151001 x151002 x151003 x151004 x151005 x151006 x151007) else (none))) else (none)) else (none)) else (if 0 ≤ x8 then ((jacquardref18_Bytes.f k (wrap64 (wrap64 (16 * (rd x6 x8)))) 1).bind fun t164 => (if x5.size + t164.size ≤ 9223372036854775807 then (jacquardref18_Put.l1 k x4 (x5 ++ t164) x6 (wrap64 (x8 + 2)) x151000 x151001 x151002 x151003 x151004 x151005 x151006 x151007) else (none))) else (none))) else ((jacquardref18_Fields.f k x151000).bind fun t165 => (if 0 ≤ (wrap64 ((t165.size : Int) - 1)) then (if (wrap64 ((t165.size : Int) - 1)) < (t165.size : Int) then ((jacquardref18_Of.f (bt t165 (wrap64 ((t165.size : Int) - 1))) x4).bind fun bt166 => (if (bt t165 (wrap64 ((t165.size : Int) - 1))) = 101 then ((jacquardref18_Bytes.f k x151002 1).bind fun t170 => (if x5.size + t170.size ≤ 9223372036854775807 then (some (x5 ++ t170, 0)) else (none))) else (if (bt t165 (wrap64 ((t165.size : Int) - 1))) = 116 then ((jacquardref18_Bytes.f k (x151007.length : Int) 1).bind fun t171 => (if x5.size + t171.size ≤ 9223372036854775807 then (jacquardref18_Put.l2 k (x5 ++ t171) 0 x151000 x151001 x151002 x151003 x151004 x151005 x151006 x151007 bt166.1 bt166.2.1 bt166.2.2) else (none))) else (if bt166.1 = 0 then (some (x5, 0)) else (if (wrap64 (x151006)) < bt166.2.1 then (jacquardref18_Put.j5 k x5 (bt t165 (wrap64 ((t165.size : Int) - 1))) true x151000 x151001 x151002 x151003 x151004 x151005 x151006 x151007 bt166.1 bt166.2.1 bt166.2.2) else (jacquardref18_Put.j5 k x5 (bt t165 (wrap64 ((t165.size : Int) - 1))) (decide ((wrap64 (x151006)) > bt166.2.2)) x151000 x151001 x151002 x151003 x151004 x151005 x151006 x151007 bt166.1 bt166.2.1 bt166.2.2)))))) else (none)) else (none)))
def jacquardref18_Put.l2 : Nat → ByteArray → Int → Int → Int → Int → Int → Int → Int → Int → List Int → Int → Int → Int → Option (ByteArray × Int)
 | 0, _, _, _, _, _, _, _, _, _, _, _, _, _ => none
 | k + 1, x5, x13, x151000, x151001, x151002, x151003, x151004, x151005, x151006, x151007, x170000, x170001, x170002 => if x13 < (x151007.length : Int) then (if 0 ≤ x13 then (if (rd x151007 x13) < x170001 then (some ((⟨#[]⟩ : ByteArray), 61)) else (if (rd x151007 x13) > x170002 then (some ((⟨#[]⟩ : ByteArray), 61)) else ((jacquardref18_Bytes.f k (rd x151007 x13) 3).bind fun t175 => (if x5.size + t175.size ≤ 9223372036854775807 then (jacquardref18_Put.l2 k (x5 ++ t175) (wrap64 (x13 + 1)) x151000 x151001 x151002 x151003 x151004 x151005 x151006 x151007 x170000 x170001 x170002) else (none))))) else (none)) else (some (x5, 0))
def jacquardref18_Put.j5 : Nat → ByteArray → Int → Bool → Int → Int → Int → Int → Int → Int → Int → List Int → Int → Int → Int → Option (ByteArray × Int)
 | 0, _, _, _, _, _, _, _, _, _, _, _, _, _, _ => none
 | k + 1, x5, x11, x157, x151000, x151001, x151002, x151003, x151004, x151005, x151006, x151007, x170000, x170001, x170002 => if x157 = true then (if x11 = 98 then (some ((⟨#[]⟩ : ByteArray), 61)) else (some ((⟨#[]⟩ : ByteArray), 32))) else (if x151000 = 28 then ((jacquardref18_Bytes.f k (x151007.length : Int) 1).bind fun t176 => (if x5.size + t176.size ≤ 9223372036854775807 then ((jacquardref18_Bytes.f k (wrap64 (x151006)) x170000).bind fun t177 => (if (x5 ++ t176).size + t177.size ≤ 9223372036854775807 then (some ((x5 ++ t176) ++ t177, 0)) else (none))) else (none))) else ((jacquardref18_Bytes.f k (wrap64 (x151006)) x170000).bind fun t178 => (if x5.size + t178.size ≤ 9223372036854775807 then (some (x5 ++ t178, 0)) else (none))))
end
def jacquardref18_Put.f (k : Nat) (a0_0 : Int) (a0_1 : Int) (a0_2 : Int) (a0_3 : Int) (a0_4 : Int) (a0_5 : Int) (a0_6 : Int) (l0_7 : List Int) : Option (ByteArray × Int) := (jacquardref18_Shape.f k a0_0 a0_1 a0_2 a0_3 a0_4 a0_5 a0_6 l0_7).bind fun t151 => (if t151 = true then ((jacquardref18_has.f k a0_0 98).bind fun t152 => (if t152 = true then (jacquardref18_Put.j0 k (a0_2 == 1) a0_0 a0_1 a0_2 a0_3 a0_4 a0_5 a0_6 l0_7) else (jacquardref18_Put.j0 k false a0_0 a0_1 a0_2 a0_3 a0_4 a0_5 a0_6 l0_7))) else (some ((⟨#[]⟩ : ByteArray), 30)))
set_option maxHeartbeats 8000000 in
set_option maxRecDepth 100000 in
theorem jacquardref18_Put.calls (k : Nat) (a0_0 : Int) (a0_1 : Int) (a0_2 : Int) (a0_3 : Int) (a0_4 : Int) (a0_5 : Int) (a0_6 : Int) (A0_7 : Option Addr) (c0_7 : Nat) (l0_7 : List Int) (r1 : ByteArray) (r2 : Int) (w : World) (hr0_7 : Kd.C (Kd.int .i64) w A0_7 l0_7.length l0_7) (hc0_7 : l0_7.length ≤ c0_7) (h : jacquardref18_Put.f k a0_0 a0_1 a0_2 a0_3 a0_4 a0_5 a0_6 l0_7 = some (r1, r2)) :
  Calls Tryd.prog 18 #[.agg #[.int .i64 a0_0, .int .i64 a0_1, .int .i64 a0_2, .int .i64 a0_3, .int .i64 a0_4, .int .i64 a0_5, .int .i32 a0_6, .slice A0_7 l0_7.length c0_7]] w fun e w' => e = .returned (.tuple #[.string r1, .int .i64 r2]) ∧ Below w.heap.size w w' := by
 have hu24 := Tryd.underlying24
 have hu70 := Tryd.underlying70
 have HR0_7 := Aside0.mk hr0_7
 have HC0_7 := Aside0.mk hc0_7
 clear hr0_7 hc0_7
 have HB := Aside0.mk (Below.refl w.heap.size w)
 have H : ((jacquardref18_Shape.f k a0_0 a0_1 a0_2 a0_3 a0_4 a0_5 a0_6 l0_7).bind fun t151 => (if t151 = true then ((jacquardref18_has.f k a0_0 98).bind fun t152 => (if t152 = true then (jacquardref18_Put.j0 k (a0_2 == 1) a0_0 a0_1 a0_2 a0_3 a0_4 a0_5 a0_6 l0_7) else (jacquardref18_Put.j0 k false a0_0 a0_1 a0_2 a0_3 a0_4 a0_5 a0_6 l0_7))) else (some ((⟨#[]⟩ : ByteArray), 30)))) = some (r1, r2) := h
 clear h
 replace H := Option.bind_eq_some_iff.mp H
 obtain ⟨t151, A20, H⟩ := H
 replace H : (if t151 = true then ((jacquardref18_has.f k a0_0 98).bind fun t152 => (if t152 = true then (jacquardref18_Put.j0 k (a0_2 == 1) a0_0 a0_1 a0_2 a0_3 a0_4 a0_5 a0_6 l0_7) else (jacquardref18_Put.j0 k false a0_0 a0_1 a0_2 a0_3 a0_4 a0_5 a0_6 l0_7))) else (some ((⟨#[]⟩ : ByteArray), 30))) = some (r1, r2) := H
 have A2 := Aside0.mk A20
 clear A20
 by_cases c3 : t151 = true
 ·subst c3
  have H1 : ((jacquardref18_has.f k a0_0 98).bind fun t152 => (if t152 = true then (jacquardref18_Put.j0 k (a0_2 == 1) a0_0 a0_1 a0_2 a0_3 a0_4 a0_5 a0_6 l0_7) else (jacquardref18_Put.j0 k false a0_0 a0_1 a0_2 a0_3 a0_4 a0_5 a0_6 l0_7))) = some (r1, r2) := by rw [if_pos rfl] at H; exact H
  clear H
  have H := H1
  clear H1
  have HC4 := Aside0.mk H
  clear H
  go_enter Tryd.func18, Tryd.ntmps18
  go_upto_region 3 with (first | ((with_reducible refine gate_dst (N := 1) rfl ?_); refine box_event ?hg (N := 1) ?hd (cs := #[.int .i64 a0_0, .int .i64 a0_1, .int .i64 a0_2, .int .i64 a0_3, .int .i64 a0_4, .int .i64 a0_5, .int .i32 a0_6, .slice A0_7 l0_7.length c0_7]) (t := 24) ?hr ?_; (case hd => rfl); (case hg => rfl); (case hr => first | (go_simp; done) | (go_simp; rfl)); intro gb150 hg w5 hbox hb; have n0_ := Aside0.mk (below_step (by repeat (first | (with_reducible first | exact HB.out | apply below_alloc | apply pw_below_drewN | apply below_drew1) | exact HB.out)) hb); have n1_ := Aside0.mk (hbox); have n2_ := Aside0.mk ((by rw [hg]; exact (below_size (by repeat (first | (with_reducible first | exact HB.out | apply below_alloc | apply pw_below_drewN | apply below_drew1) | exact HB.out))) : w.heap.size ≤ gb150)); have n3_ := Aside0.mk ((by rw [hg]; exact (below_size (by repeat (first | (with_reducible first | exact HB.out | apply below_alloc | apply pw_below_drewN | apply below_drew1) | exact HB.out))) : w.heap.size ≤ gb150)); clear HB; have HB := n0_; have BK150 := n1_; have GW150 := n2_; have GE150 := n3_; clear n0_ n1_ n2_ n3_; clear hb hbox hg; have hcz6_0 : w5.cell? ⟨gb150, 0, none⟩ = some (.int .i64 a0_0) := (blk_cell BK150.out 0).trans rfl; have hcz6_1 : w5.cell? ⟨gb150, 1, none⟩ = some (.int .i64 a0_1) := (blk_cell BK150.out 1).trans rfl; have hcz6_2 : w5.cell? ⟨gb150, 2, none⟩ = some (.int .i64 a0_2) := (blk_cell BK150.out 2).trans rfl; have hcz6_3 : w5.cell? ⟨gb150, 3, none⟩ = some (.int .i64 a0_3) := (blk_cell BK150.out 3).trans rfl; have hcz6_4 : w5.cell? ⟨gb150, 4, none⟩ = some (.int .i64 a0_4) := (blk_cell BK150.out 4).trans rfl; have hcz6_5 : w5.cell? ⟨gb150, 5, none⟩ = some (.int .i64 a0_5) := (blk_cell BK150.out 5).trans rfl; have hcz6_6 : w5.cell? ⟨gb150, 6, none⟩ = some (.int .i32 a0_6) := (blk_cell BK150.out 6).trans rfl; have hcz6_7 : w5.cell? ⟨gb150, 7, none⟩ = some (.slice A0_7 l0_7.length c0_7) := (blk_cell BK150.out 7).trans rfl; have hfz6_0 := blk_frozen BK150.out 0; have hfz6_1 := blk_frozen BK150.out 1; have hfz6_2 := blk_frozen BK150.out 2; have hfz6_3 := blk_frozen BK150.out 3; have hfz6_4 := blk_frozen BK150.out 4; have hfz6_5 := blk_frozen BK150.out 5; have hfz6_6 := blk_frozen BK150.out 6; have hfz6_7 := blk_frozen BK150.out 7) | (go_at_call 46; (with_reducible refine (jacquardref18_Shape.calls k a0_0 a0_1 a0_2 a0_3 a0_4 a0_5 a0_6 _ _ l0_7 true _ ?side1 ?side2 A2.out).mono ?_); (case side1 => repeat (first | exact (Kd.C_below HR0_7.out HB.out) | (with_reducible refine Kd.C_alloc ?_ _) | (with_reducible refine Kd.C_drewN ?_ _) | (with_reducible refine Kd.C_drew ?_))); (case side2 => exact HC0_7.out); rintro e w7 ⟨rfl, hb⟩; have n0_ := Aside0.mk (blk_below (g := gb150) (o := .cells #[.int .i64 a0_0, .int .i64 a0_1, .int .i64 a0_2, .int .i64 a0_3, .int .i64 a0_4, .int .i64 a0_5, .int .i32 a0_6, .slice A0_7 l0_7.length c0_7] 24 (0, 0)) (by (with_reducible repeat (first | refine blk_drewN ?_ _ | refine blk_drew ?_ | refine blk_alloc ?_ _)); exact BK150.out) hb); have n1_ := Aside0.mk (below_step (by repeat (first | (with_reducible first | exact HB.out | apply below_alloc | apply pw_below_drewN | apply below_drew1 | refine below_set ?_ GE150.out) | exact HB.out)) hb); clear BK150; clear HB; have BK150 := n0_; have HB := n1_; clear n0_ n1_; (try clear hb); (try clear hb2); (try clear hk); (try clear hi)))
  repeat (go_quiet (first | ((with_reducible refine gate_dst (N := 1) rfl ?_); refine box_event ?hg (N := 1) ?hd (cs := #[.int .i64 a0_0, .int .i64 a0_1, .int .i64 a0_2, .int .i64 a0_3, .int .i64 a0_4, .int .i64 a0_5, .int .i32 a0_6, .slice A0_7 l0_7.length c0_7]) (t := 24) ?hr ?_; (case hd => rfl); (case hg => rfl); (case hr => first | (go_simp; done) | (go_simp; rfl)); intro gb150 hg w5 hbox hb; have n0_ := Aside0.mk (below_step (by repeat (first | (with_reducible first | exact HB.out | apply below_alloc | apply pw_below_drewN | apply below_drew1) | exact HB.out)) hb); have n1_ := Aside0.mk (hbox); have n2_ := Aside0.mk ((by rw [hg]; exact (below_size (by repeat (first | (with_reducible first | exact HB.out | apply below_alloc | apply pw_below_drewN | apply below_drew1) | exact HB.out))) : w.heap.size ≤ gb150)); have n3_ := Aside0.mk ((by rw [hg]; exact (below_size (by repeat (first | (with_reducible first | exact HB.out | apply below_alloc | apply pw_below_drewN | apply below_drew1) | exact HB.out))) : w.heap.size ≤ gb150)); clear HB; have HB := n0_; have BK150 := n1_; have GW150 := n2_; have GE150 := n3_; clear n0_ n1_ n2_ n3_; clear hb hbox hg; have hcz6_0 : w5.cell? ⟨gb150, 0, none⟩ = some (.int .i64 a0_0) := (blk_cell BK150.out 0).trans rfl; have hcz6_1 : w5.cell? ⟨gb150, 1, none⟩ = some (.int .i64 a0_1) := (blk_cell BK150.out 1).trans rfl; have hcz6_2 : w5.cell? ⟨gb150, 2, none⟩ = some (.int .i64 a0_2) := (blk_cell BK150.out 2).trans rfl; have hcz6_3 : w5.cell? ⟨gb150, 3, none⟩ = some (.int .i64 a0_3) := (blk_cell BK150.out 3).trans rfl; have hcz6_4 : w5.cell? ⟨gb150, 4, none⟩ = some (.int .i64 a0_4) := (blk_cell BK150.out 4).trans rfl; have hcz6_5 : w5.cell? ⟨gb150, 5, none⟩ = some (.int .i64 a0_5) := (blk_cell BK150.out 5).trans rfl; have hcz6_6 : w5.cell? ⟨gb150, 6, none⟩ = some (.int .i32 a0_6) := (blk_cell BK150.out 6).trans rfl; have hcz6_7 : w5.cell? ⟨gb150, 7, none⟩ = some (.slice A0_7 l0_7.length c0_7) := (blk_cell BK150.out 7).trans rfl; have hfz6_0 := blk_frozen BK150.out 0; have hfz6_1 := blk_frozen BK150.out 1; have hfz6_2 := blk_frozen BK150.out 2; have hfz6_3 := blk_frozen BK150.out 3; have hfz6_4 := blk_frozen BK150.out 4; have hfz6_5 := blk_frozen BK150.out 5; have hfz6_6 := blk_frozen BK150.out 6; have hfz6_7 := blk_frozen BK150.out 7) | (go_at_call 46; (with_reducible refine (jacquardref18_Shape.calls k a0_0 a0_1 a0_2 a0_3 a0_4 a0_5 a0_6 _ _ l0_7 true _ ?side1 ?side2 A2.out).mono ?_); (case side1 => repeat (first | exact (Kd.C_below HR0_7.out HB.out) | (with_reducible refine Kd.C_alloc ?_ _) | (with_reducible refine Kd.C_drewN ?_ _) | (with_reducible refine Kd.C_drew ?_))); (case side2 => exact HC0_7.out); rintro e w7 ⟨rfl, hb⟩; have n0_ := Aside0.mk (blk_below (g := gb150) (o := .cells #[.int .i64 a0_0, .int .i64 a0_1, .int .i64 a0_2, .int .i64 a0_3, .int .i64 a0_4, .int .i64 a0_5, .int .i32 a0_6, .slice A0_7 l0_7.length c0_7] 24 (0, 0)) (by (with_reducible repeat (first | refine blk_drewN ?_ _ | refine blk_drew ?_ | refine blk_alloc ?_ _)); exact BK150.out) hb); have n1_ := Aside0.mk (below_step (by repeat (first | (with_reducible first | exact HB.out | apply below_alloc | apply pw_below_drewN | apply below_drew1 | refine below_set ?_ GE150.out) | exact HB.out)) hb); clear BK150; clear HB; have BK150 := n0_; have HB := n1_; clear n0_ n1_; (try clear hb); (try clear hb2); (try clear hk); (try clear hi))); go_upto_region 3 with (first | ((with_reducible refine gate_dst (N := 1) rfl ?_); refine box_event ?hg (N := 1) ?hd (cs := #[.int .i64 a0_0, .int .i64 a0_1, .int .i64 a0_2, .int .i64 a0_3, .int .i64 a0_4, .int .i64 a0_5, .int .i32 a0_6, .slice A0_7 l0_7.length c0_7]) (t := 24) ?hr ?_; (case hd => rfl); (case hg => rfl); (case hr => first | (go_simp; done) | (go_simp; rfl)); intro gb150 hg w5 hbox hb; have n0_ := Aside0.mk (below_step (by repeat (first | (with_reducible first | exact HB.out | apply below_alloc | apply pw_below_drewN | apply below_drew1) | exact HB.out)) hb); have n1_ := Aside0.mk (hbox); have n2_ := Aside0.mk ((by rw [hg]; exact (below_size (by repeat (first | (with_reducible first | exact HB.out | apply below_alloc | apply pw_below_drewN | apply below_drew1) | exact HB.out))) : w.heap.size ≤ gb150)); have n3_ := Aside0.mk ((by rw [hg]; exact (below_size (by repeat (first | (with_reducible first | exact HB.out | apply below_alloc | apply pw_below_drewN | apply below_drew1) | exact HB.out))) : w.heap.size ≤ gb150)); clear HB; have HB := n0_; have BK150 := n1_; have GW150 := n2_; have GE150 := n3_; clear n0_ n1_ n2_ n3_; clear hb hbox hg; have hcz6_0 : w5.cell? ⟨gb150, 0, none⟩ = some (.int .i64 a0_0) := (blk_cell BK150.out 0).trans rfl; have hcz6_1 : w5.cell? ⟨gb150, 1, none⟩ = some (.int .i64 a0_1) := (blk_cell BK150.out 1).trans rfl; have hcz6_2 : w5.cell? ⟨gb150, 2, none⟩ = some (.int .i64 a0_2) := (blk_cell BK150.out 2).trans rfl; have hcz6_3 : w5.cell? ⟨gb150, 3, none⟩ = some (.int .i64 a0_3) := (blk_cell BK150.out 3).trans rfl; have hcz6_4 : w5.cell? ⟨gb150, 4, none⟩ = some (.int .i64 a0_4) := (blk_cell BK150.out 4).trans rfl; have hcz6_5 : w5.cell? ⟨gb150, 5, none⟩ = some (.int .i64 a0_5) := (blk_cell BK150.out 5).trans rfl; have hcz6_6 : w5.cell? ⟨gb150, 6, none⟩ = some (.int .i32 a0_6) := (blk_cell BK150.out 6).trans rfl; have hcz6_7 : w5.cell? ⟨gb150, 7, none⟩ = some (.slice A0_7 l0_7.length c0_7) := (blk_cell BK150.out 7).trans rfl; have hfz6_0 := blk_frozen BK150.out 0; have hfz6_1 := blk_frozen BK150.out 1; have hfz6_2 := blk_frozen BK150.out 2; have hfz6_3 := blk_frozen BK150.out 3; have hfz6_4 := blk_frozen BK150.out 4; have hfz6_5 := blk_frozen BK150.out 5; have hfz6_6 := blk_frozen BK150.out 6; have hfz6_7 := blk_frozen BK150.out 7) | (go_at_call 46; (with_reducible refine (jacquardref18_Shape.calls k a0_0 a0_1 a0_2 a0_3 a0_4 a0_5 a0_6 _ _ l0_7 true _ ?side1 ?side2 A2.out).mono ?_); (case side1 => repeat (first | exact (Kd.C_below HR0_7.out HB.out) | (with_reducible refine Kd.C_alloc ?_ _) | (with_reducible refine Kd.C_drewN ?_ _) | (with_reducible refine Kd.C_drew ?_))); (case side2 => exact HC0_7.out); rintro e w7 ⟨rfl, hb⟩; have n0_ := Aside0.mk (blk_below (g := gb150) (o := .cells #[.int .i64 a0_0, .int .i64 a0_1, .int .i64 a0_2, .int .i64 a0_3, .int .i64 a0_4, .int .i64 a0_5, .int .i32 a0_6, .slice A0_7 l0_7.length c0_7] 24 (0, 0)) (by (with_reducible repeat (first | refine blk_drewN ?_ _ | refine blk_drew ?_ | refine blk_alloc ?_ _)); exact BK150.out) hb); have n1_ := Aside0.mk (below_step (by repeat (first | (with_reducible first | exact HB.out | apply below_alloc | apply pw_below_drewN | apply below_drew1 | refine below_set ?_ GE150.out) | exact HB.out)) hb); clear BK150; clear HB; have BK150 := n0_; have HB := n1_; clear n0_ n1_; (try clear hb); (try clear hb2); (try clear hk); (try clear hi))))
  (try simp only [Act.put, List.setIfInBounds_toArray, List.set_cons_zero, List.set_cons_succ])
  go_cut [4] (fun v4 wc => ∃ (kq : Nat) (x4_3 : Bool), v4 = .bool x4_3 ∧ Aside0 (jacquardref18_Put.j0 kq x4_3 a0_0 a0_1 a0_2 a0_3 a0_4 a0_5 a0_6 l0_7 = some (r1, r2)) ∧ Aside0 (kq ≤ k) ∧ Aside0 (wc.heap[gb150]? = some (.cells #[.int .i64 a0_0, .int .i64 a0_1, .int .i64 a0_2, .int .i64 a0_3, .int .i64 a0_4, .int .i64 a0_5, .int .i32 a0_6, (.slice A0_7 l0_7.length c0_7)] 24 (0, 0))) ∧ Aside0 (Below w.heap.size w wc))
  case first =>
   have H := HC4.out
   clear HC4
   replace H := Option.bind_eq_some_iff.mp H
   obtain ⟨t152, A80, H⟩ := H
   replace H : (if t152 = true then (jacquardref18_Put.j0 k (a0_2 == 1) a0_0 a0_1 a0_2 a0_3 a0_4 a0_5 a0_6 l0_7) else (jacquardref18_Put.j0 k false a0_0 a0_1 a0_2 a0_3 a0_4 a0_5 a0_6 l0_7)) = some (r1, r2) := H
   have A8 := Aside0.mk A80
   clear A80
   by_cases c9 : t152 = true
   ·subst c9
    have H1 : (jacquardref18_Put.j0 k (a0_2 == 1) a0_0 a0_1 a0_2 a0_3 a0_4 a0_5 a0_6 l0_7) = some (r1, r2) := by rw [if_pos rfl] at H; exact H
    clear H
    have H := H1
    clear H1
    have H' := Aside0.mk H
    clear H
    have hcz10_0 : w7.cell? ⟨gb150, 0, none⟩ = some (.int .i64 a0_0) := (blk_cell BK150.out 0).trans rfl
    have hcz10_1 : w7.cell? ⟨gb150, 1, none⟩ = some (.int .i64 a0_1) := (blk_cell BK150.out 1).trans rfl
    have hcz10_2 : w7.cell? ⟨gb150, 2, none⟩ = some (.int .i64 a0_2) := (blk_cell BK150.out 2).trans rfl
    have hcz10_3 : w7.cell? ⟨gb150, 3, none⟩ = some (.int .i64 a0_3) := (blk_cell BK150.out 3).trans rfl
    have hcz10_4 : w7.cell? ⟨gb150, 4, none⟩ = some (.int .i64 a0_4) := (blk_cell BK150.out 4).trans rfl
    have hcz10_5 : w7.cell? ⟨gb150, 5, none⟩ = some (.int .i64 a0_5) := (blk_cell BK150.out 5).trans rfl
    have hcz10_6 : w7.cell? ⟨gb150, 6, none⟩ = some (.int .i32 a0_6) := (blk_cell BK150.out 6).trans rfl
    have hcz10_7 : w7.cell? ⟨gb150, 7, none⟩ = some (.slice A0_7 l0_7.length c0_7) := (blk_cell BK150.out 7).trans rfl
    have hfz10_0 := blk_frozen BK150.out 0
    have hfz10_1 := blk_frozen BK150.out 1
    have hfz10_2 := blk_frozen BK150.out 2
    have hfz10_3 := blk_frozen BK150.out 3
    have hfz10_4 := blk_frozen BK150.out 4
    have hfz10_5 := blk_frozen BK150.out 5
    have hfz10_6 := blk_frozen BK150.out 6
    have hfz10_7 := blk_frozen BK150.out 7
    go_wp2_with (first | (go_at_call 47; (with_reducible refine (jacquardref18_has.calls k a0_0 98 true _ A8.out).mono ?_); rintro e w' ⟨rfl, ⟨nd, rfl⟩⟩; (try first | exact ⟨rfl, _, World.drewN_drewN _ _ _⟩ | exact ⟨rfl, _, Eq.trans (World.drewN_drewN _ _ _) (congrArg (World.drewN _) (Nat.add_assoc _ _ _))⟩)))
    repeat (go_quiet (first | (go_at_call 47; (with_reducible refine (jacquardref18_has.calls k a0_0 98 true _ A8.out).mono ?_); rintro e w' ⟨rfl, ⟨nd, rfl⟩⟩; (try first | exact ⟨rfl, _, World.drewN_drewN _ _ _⟩ | exact ⟨rfl, _, Eq.trans (World.drewN_drewN _ _ _) (congrArg (World.drewN _) (Nat.add_assoc _ _ _))⟩))); try go_wp2_with (first | (go_at_call 47; (with_reducible refine (jacquardref18_has.calls k a0_0 98 true _ A8.out).mono ?_); rintro e w' ⟨rfl, ⟨nd, rfl⟩⟩; (try first | exact ⟨rfl, _, World.drewN_drewN _ _ _⟩ | exact ⟨rfl, _, Eq.trans (World.drewN_drewN _ _ _) (congrArg (World.drewN _) (Nat.add_assoc _ _ _))⟩))))
    go_meet
    case rel => exact ⟨_, ((a0_2 == 1)), (by first | rfl | (simp; done) | (simp [*]; done)), H', ⟨by first | omega | exact Nat.le_refl _⟩, ⟨by (with_reducible repeat (first | refine blk_drewN ?_ _ | refine blk_drew ?_ | refine blk_alloc ?_ _)); exact BK150.out⟩, ⟨by repeat (first | (with_reducible first | exact HB.out | apply below_alloc | apply pw_below_drewN | apply below_drew1 | refine below_set ?_ GE150.out) | exact HB.out)⟩⟩
   ·replace c9 := Bool.eq_false_iff.mpr c9
    subst c9
    have H1 : (jacquardref18_Put.j0 k false a0_0 a0_1 a0_2 a0_3 a0_4 a0_5 a0_6 l0_7) = some (r1, r2) := by rw [if_neg (show ¬ (false = true) by decide)] at H; exact H
    clear H
    have H := H1
    clear H1
    have H' := Aside0.mk H
    clear H
    have hcz11_0 : w7.cell? ⟨gb150, 0, none⟩ = some (.int .i64 a0_0) := (blk_cell BK150.out 0).trans rfl
    have hcz11_1 : w7.cell? ⟨gb150, 1, none⟩ = some (.int .i64 a0_1) := (blk_cell BK150.out 1).trans rfl
    have hcz11_2 : w7.cell? ⟨gb150, 2, none⟩ = some (.int .i64 a0_2) := (blk_cell BK150.out 2).trans rfl
    have hcz11_3 : w7.cell? ⟨gb150, 3, none⟩ = some (.int .i64 a0_3) := (blk_cell BK150.out 3).trans rfl
    have hcz11_4 : w7.cell? ⟨gb150, 4, none⟩ = some (.int .i64 a0_4) := (blk_cell BK150.out 4).trans rfl
    have hcz11_5 : w7.cell? ⟨gb150, 5, none⟩ = some (.int .i64 a0_5) := (blk_cell BK150.out 5).trans rfl
    have hcz11_6 : w7.cell? ⟨gb150, 6, none⟩ = some (.int .i32 a0_6) := (blk_cell BK150.out 6).trans rfl
    have hcz11_7 : w7.cell? ⟨gb150, 7, none⟩ = some (.slice A0_7 l0_7.length c0_7) := (blk_cell BK150.out 7).trans rfl
    have hfz11_0 := blk_frozen BK150.out 0
    have hfz11_1 := blk_frozen BK150.out 1
    have hfz11_2 := blk_frozen BK150.out 2
    have hfz11_3 := blk_frozen BK150.out 3
    have hfz11_4 := blk_frozen BK150.out 4
    have hfz11_5 := blk_frozen BK150.out 5
    have hfz11_6 := blk_frozen BK150.out 6
    have hfz11_7 := blk_frozen BK150.out 7
    go_wp2_with (first | (go_at_call 47; (with_reducible refine (jacquardref18_has.calls k a0_0 98 false _ A8.out).mono ?_); rintro e w' ⟨rfl, ⟨nd, rfl⟩⟩; (try first | exact ⟨rfl, _, World.drewN_drewN _ _ _⟩ | exact ⟨rfl, _, Eq.trans (World.drewN_drewN _ _ _) (congrArg (World.drewN _) (Nat.add_assoc _ _ _))⟩)))
    repeat (go_quiet (first | (go_at_call 47; (with_reducible refine (jacquardref18_has.calls k a0_0 98 false _ A8.out).mono ?_); rintro e w' ⟨rfl, ⟨nd, rfl⟩⟩; (try first | exact ⟨rfl, _, World.drewN_drewN _ _ _⟩ | exact ⟨rfl, _, Eq.trans (World.drewN_drewN _ _ _) (congrArg (World.drewN _) (Nat.add_assoc _ _ _))⟩))); try go_wp2_with (first | (go_at_call 47; (with_reducible refine (jacquardref18_has.calls k a0_0 98 false _ A8.out).mono ?_); rintro e w' ⟨rfl, ⟨nd, rfl⟩⟩; (try first | exact ⟨rfl, _, World.drewN_drewN _ _ _⟩ | exact ⟨rfl, _, Eq.trans (World.drewN_drewN _ _ _) (congrArg (World.drewN _) (Nat.add_assoc _ _ _))⟩))))
    go_meet
    case rel => exact ⟨_, (false), (by first | rfl | (simp; done) | (simp [*]; done)), H', ⟨by first | omega | exact Nat.le_refl _⟩, ⟨by (with_reducible repeat (first | refine blk_drewN ?_ _ | refine blk_drew ?_ | refine blk_alloc ?_ _)); exact BK150.out⟩, ⟨by repeat (first | (with_reducible first | exact HB.out | apply below_alloc | apply pw_below_drewN | apply below_drew1 | refine below_set ?_ GE150.out) | exact HB.out)⟩⟩
  case rest =>
   clear HC4
   try clear c1
   try clear p2
   try clear c3
   try clear c9
   try clear hcz10_0
   try clear hcz10_1
   try clear hcz10_2
   try clear hcz10_3
   try clear hcz10_4
   try clear hcz10_5
   try clear hcz10_6
   try clear hcz10_7
   try clear hcz11_0
   try clear hcz11_1
   try clear hcz11_2
   try clear hcz11_3
   try clear hcz11_4
   try clear hcz11_5
   try clear hcz11_6
   try clear hcz11_7
   try clear hcz6_0
   try clear hcz6_1
   try clear hcz6_2
   try clear hcz6_3
   try clear hcz6_4
   try clear hcz6_5
   try clear hcz6_6
   try clear hcz6_7
   try clear hfz10_0
   try clear hfz10_1
   try clear hfz10_2
   try clear hfz10_3
   try clear hfz10_4
   try clear hfz10_5
   try clear hfz10_6
   try clear hfz10_7
   try clear hfz11_0
   try clear hfz11_1
   try clear hfz11_2
   try clear hfz11_3
   try clear hfz11_4
   try clear hfz11_5
   try clear hfz11_6
   try clear hfz11_7
   try clear hfz6_0
   try clear hfz6_1
   try clear hfz6_2
   try clear hfz6_3
   try clear hfz6_4
   try clear hfz6_5
   try clear hfz6_6
   try clear hfz6_7
   obtain ⟨kq, x4_3, rfl, HA, HJ3, BK150, HB⟩ := hcut
   cases kq with
   | zero => exact absurd HA.out (by simp [jacquardref18_Put.j0])
   | succ kj3 =>
    have H := HA.out
    clear HA
    simp only [jacquardref18_Put.j0] at H
    replace H := Option.bind_eq_some_iff.mp H
    obtain ⟨t153, A120, H⟩ := H
    replace H : (if x4_3 = true then ((jacquardref18_Bytes.f kj3 (wrap64 (a0_0 + 128)) 1).bind fun t154 => (jacquardref18_Put.j1 kj3 x4_3 t154 a0_0 a0_1 a0_2 a0_3 a0_4 a0_5 a0_6 l0_7)) else (jacquardref18_Put.j1 kj3 x4_3 t153 a0_0 a0_1 a0_2 a0_3 a0_4 a0_5 a0_6 l0_7)) = some (r1, r2) := H
    have A12 := Aside0.mk A120
    clear A120
    have HC13 := Aside0.mk H
    clear H
    have hcz14_0 : wc.cell? ⟨gb150, 0, none⟩ = some (.int .i64 a0_0) := (blk_cell BK150.out 0).trans rfl
    have hcz14_1 : wc.cell? ⟨gb150, 1, none⟩ = some (.int .i64 a0_1) := (blk_cell BK150.out 1).trans rfl
    have hcz14_2 : wc.cell? ⟨gb150, 2, none⟩ = some (.int .i64 a0_2) := (blk_cell BK150.out 2).trans rfl
    have hcz14_3 : wc.cell? ⟨gb150, 3, none⟩ = some (.int .i64 a0_3) := (blk_cell BK150.out 3).trans rfl
    have hcz14_4 : wc.cell? ⟨gb150, 4, none⟩ = some (.int .i64 a0_4) := (blk_cell BK150.out 4).trans rfl
    have hcz14_5 : wc.cell? ⟨gb150, 5, none⟩ = some (.int .i64 a0_5) := (blk_cell BK150.out 5).trans rfl
    have hcz14_6 : wc.cell? ⟨gb150, 6, none⟩ = some (.int .i32 a0_6) := (blk_cell BK150.out 6).trans rfl
    have hcz14_7 : wc.cell? ⟨gb150, 7, none⟩ = some (.slice A0_7 l0_7.length c0_7) := (blk_cell BK150.out 7).trans rfl
    have hfz14_0 := blk_frozen BK150.out 0
    have hfz14_1 := blk_frozen BK150.out 1
    have hfz14_2 := blk_frozen BK150.out 2
    have hfz14_3 := blk_frozen BK150.out 3
    have hfz14_4 := blk_frozen BK150.out 4
    have hfz14_5 := blk_frozen BK150.out 5
    have hfz14_6 := blk_frozen BK150.out 6
    have hfz14_7 := blk_frozen BK150.out 7
    go_upto_if 28 with (first | (go_at_call 48; (with_reducible refine (jacquardref18_Bytes.calls kj3 a0_0 1 t153 _ A12.out).mono ?_); rintro e w15 ⟨rfl, hb⟩; have n0_ := Aside0.mk (blk_below (g := gb150) (o := .cells #[.int .i64 a0_0, .int .i64 a0_1, .int .i64 a0_2, .int .i64 a0_3, .int .i64 a0_4, .int .i64 a0_5, .int .i32 a0_6, .slice A0_7 l0_7.length c0_7] 24 (0, 0)) (by (with_reducible repeat (first | refine blk_drewN ?_ _ | refine blk_drew ?_ | refine blk_alloc ?_ _)); exact BK150.out) hb); have n1_ := Aside0.mk (below_step (by repeat (first | (with_reducible first | exact HB.out | apply below_alloc | apply pw_below_drewN | apply below_drew1 | refine below_set ?_ GE150.out) | exact HB.out)) hb); clear BK150; clear HB; have BK150 := n0_; have HB := n1_; clear n0_ n1_; (try clear hb); (try clear hb2); (try clear hk); (try clear hi)))
    repeat (go_quiet (first | (go_at_call 48; (with_reducible refine (jacquardref18_Bytes.calls kj3 a0_0 1 t153 _ A12.out).mono ?_); rintro e w15 ⟨rfl, hb⟩; have n0_ := Aside0.mk (blk_below (g := gb150) (o := .cells #[.int .i64 a0_0, .int .i64 a0_1, .int .i64 a0_2, .int .i64 a0_3, .int .i64 a0_4, .int .i64 a0_5, .int .i32 a0_6, .slice A0_7 l0_7.length c0_7] 24 (0, 0)) (by (with_reducible repeat (first | refine blk_drewN ?_ _ | refine blk_drew ?_ | refine blk_alloc ?_ _)); exact BK150.out) hb); have n1_ := Aside0.mk (below_step (by repeat (first | (with_reducible first | exact HB.out | apply below_alloc | apply pw_below_drewN | apply below_drew1 | refine below_set ?_ GE150.out) | exact HB.out)) hb); clear BK150; clear HB; have BK150 := n0_; have HB := n1_; clear n0_ n1_; (try clear hb); (try clear hb2); (try clear hk); (try clear hi))); go_upto_if 28 with (first | (go_at_call 48; (with_reducible refine (jacquardref18_Bytes.calls kj3 a0_0 1 t153 _ A12.out).mono ?_); rintro e w15 ⟨rfl, hb⟩; have n0_ := Aside0.mk (blk_below (g := gb150) (o := .cells #[.int .i64 a0_0, .int .i64 a0_1, .int .i64 a0_2, .int .i64 a0_3, .int .i64 a0_4, .int .i64 a0_5, .int .i32 a0_6, .slice A0_7 l0_7.length c0_7] 24 (0, 0)) (by (with_reducible repeat (first | refine blk_drewN ?_ _ | refine blk_drew ?_ | refine blk_alloc ?_ _)); exact BK150.out) hb); have n1_ := Aside0.mk (below_step (by repeat (first | (with_reducible first | exact HB.out | apply below_alloc | apply pw_below_drewN | apply below_drew1 | refine below_set ?_ GE150.out) | exact HB.out)) hb); clear BK150; clear HB; have BK150 := n0_; have HB := n1_; clear n0_ n1_; (try clear hb); (try clear hb2); (try clear hk); (try clear hi))))
    (try simp only [Act.put, List.setIfInBounds_toArray, List.set_cons_zero, List.set_cons_succ])
    go_cut [5] (fun v5 wc => ∃ (kq : Nat) (x5_12 : ByteArray), v5 = .string x5_12 ∧ Aside0 (jacquardref18_Put.j1 kq x4_3 x5_12 a0_0 a0_1 a0_2 a0_3 a0_4 a0_5 a0_6 l0_7 = some (r1, r2)) ∧ Aside0 (kq ≤ kj3) ∧ Aside0 (wc.heap[gb150]? = some (.cells #[.int .i64 a0_0, .int .i64 a0_1, .int .i64 a0_2, .int .i64 a0_3, .int .i64 a0_4, .int .i64 a0_5, .int .i32 a0_6, (.slice A0_7 l0_7.length c0_7)] 24 (0, 0))) ∧ Aside0 (Below w.heap.size w wc))
    case first =>
     have H := HC13.out
     clear HC13
     by_cases c16 : x4_3 = true
     ·subst c16
      have H1 : ((jacquardref18_Bytes.f kj3 (wrap64 (a0_0 + 128)) 1).bind fun t154 => (jacquardref18_Put.j1 kj3 true t154 a0_0 a0_1 a0_2 a0_3 a0_4 a0_5 a0_6 l0_7)) = some (r1, r2) := by rw [if_pos rfl] at H; exact H
      clear H
      have H := H1
      clear H1
      replace H := Option.bind_eq_some_iff.mp H
      obtain ⟨t154, A170, H⟩ := H
      replace H : (jacquardref18_Put.j1 kj3 true t154 a0_0 a0_1 a0_2 a0_3 a0_4 a0_5 a0_6 l0_7) = some (r1, r2) := H
      have A17 := Aside0.mk A170
      clear A170
      have H' := Aside0.mk H
      clear H
      have hcz18_0 : w15.cell? ⟨gb150, 0, none⟩ = some (.int .i64 a0_0) := (blk_cell BK150.out 0).trans rfl
      have hcz18_1 : w15.cell? ⟨gb150, 1, none⟩ = some (.int .i64 a0_1) := (blk_cell BK150.out 1).trans rfl
      have hcz18_2 : w15.cell? ⟨gb150, 2, none⟩ = some (.int .i64 a0_2) := (blk_cell BK150.out 2).trans rfl
      have hcz18_3 : w15.cell? ⟨gb150, 3, none⟩ = some (.int .i64 a0_3) := (blk_cell BK150.out 3).trans rfl
      have hcz18_4 : w15.cell? ⟨gb150, 4, none⟩ = some (.int .i64 a0_4) := (blk_cell BK150.out 4).trans rfl
      have hcz18_5 : w15.cell? ⟨gb150, 5, none⟩ = some (.int .i64 a0_5) := (blk_cell BK150.out 5).trans rfl
      have hcz18_6 : w15.cell? ⟨gb150, 6, none⟩ = some (.int .i32 a0_6) := (blk_cell BK150.out 6).trans rfl
      have hcz18_7 : w15.cell? ⟨gb150, 7, none⟩ = some (.slice A0_7 l0_7.length c0_7) := (blk_cell BK150.out 7).trans rfl
      have hfz18_0 := blk_frozen BK150.out 0
      have hfz18_1 := blk_frozen BK150.out 1
      have hfz18_2 := blk_frozen BK150.out 2
      have hfz18_3 := blk_frozen BK150.out 3
      have hfz18_4 := blk_frozen BK150.out 4
      have hfz18_5 := blk_frozen BK150.out 5
      have hfz18_6 := blk_frozen BK150.out 6
      have hfz18_7 := blk_frozen BK150.out 7
      go_wp2_with (first | (go_at_call 48; (with_reducible refine (jacquardref18_Bytes.calls kj3 (wrap64 (a0_0 + 128)) 1 t154 _ A17.out).mono ?_); rintro e w19 ⟨rfl, hb⟩; have n0_ := Aside0.mk (blk_below (g := gb150) (o := .cells #[.int .i64 a0_0, .int .i64 a0_1, .int .i64 a0_2, .int .i64 a0_3, .int .i64 a0_4, .int .i64 a0_5, .int .i32 a0_6, .slice A0_7 l0_7.length c0_7] 24 (0, 0)) (by (with_reducible repeat (first | refine blk_drewN ?_ _ | refine blk_drew ?_ | refine blk_alloc ?_ _)); exact BK150.out) hb); have n1_ := Aside0.mk (below_step (by repeat (first | (with_reducible first | exact HB.out | apply below_alloc | apply pw_below_drewN | apply below_drew1 | refine below_set ?_ GE150.out) | exact HB.out)) hb); clear BK150; clear HB; have BK150 := n0_; have HB := n1_; clear n0_ n1_; (try clear hb); (try clear hb2); (try clear hk); (try clear hi)))
      repeat (go_quiet (first | (go_at_call 48; (with_reducible refine (jacquardref18_Bytes.calls kj3 (wrap64 (a0_0 + 128)) 1 t154 _ A17.out).mono ?_); rintro e w19 ⟨rfl, hb⟩; have n0_ := Aside0.mk (blk_below (g := gb150) (o := .cells #[.int .i64 a0_0, .int .i64 a0_1, .int .i64 a0_2, .int .i64 a0_3, .int .i64 a0_4, .int .i64 a0_5, .int .i32 a0_6, .slice A0_7 l0_7.length c0_7] 24 (0, 0)) (by (with_reducible repeat (first | refine blk_drewN ?_ _ | refine blk_drew ?_ | refine blk_alloc ?_ _)); exact BK150.out) hb); have n1_ := Aside0.mk (below_step (by repeat (first | (with_reducible first | exact HB.out | apply below_alloc | apply pw_below_drewN | apply below_drew1 | refine below_set ?_ GE150.out) | exact HB.out)) hb); clear BK150; clear HB; have BK150 := n0_; have HB := n1_; clear n0_ n1_; (try clear hb); (try clear hb2); (try clear hk); (try clear hi))); try go_wp2_with (first | (go_at_call 48; (with_reducible refine (jacquardref18_Bytes.calls kj3 (wrap64 (a0_0 + 128)) 1 t154 _ A17.out).mono ?_); rintro e w19 ⟨rfl, hb⟩; have n0_ := Aside0.mk (blk_below (g := gb150) (o := .cells #[.int .i64 a0_0, .int .i64 a0_1, .int .i64 a0_2, .int .i64 a0_3, .int .i64 a0_4, .int .i64 a0_5, .int .i32 a0_6, .slice A0_7 l0_7.length c0_7] 24 (0, 0)) (by (with_reducible repeat (first | refine blk_drewN ?_ _ | refine blk_drew ?_ | refine blk_alloc ?_ _)); exact BK150.out) hb); have n1_ := Aside0.mk (below_step (by repeat (first | (with_reducible first | exact HB.out | apply below_alloc | apply pw_below_drewN | apply below_drew1 | refine below_set ?_ GE150.out) | exact HB.out)) hb); clear BK150; clear HB; have BK150 := n0_; have HB := n1_; clear n0_ n1_; (try clear hb); (try clear hb2); (try clear hk); (try clear hi))))
      go_meet
      case rel => exact ⟨_, (t154), (by first | rfl | (simp; done) | (simp [*]; done)), H', ⟨by have := HJ3.out; first | omega | exact Nat.le_refl _⟩, ⟨by (with_reducible repeat (first | refine blk_drewN ?_ _ | refine blk_drew ?_ | refine blk_alloc ?_ _)); exact BK150.out⟩, ⟨by repeat (first | (with_reducible first | exact HB.out | apply below_alloc | apply pw_below_drewN | apply below_drew1 | refine below_set ?_ GE150.out) | exact HB.out)⟩⟩
     ·replace c16 := Bool.eq_false_iff.mpr c16
      subst c16
      have H1 : (jacquardref18_Put.j1 kj3 false t153 a0_0 a0_1 a0_2 a0_3 a0_4 a0_5 a0_6 l0_7) = some (r1, r2) := by rw [if_neg (show ¬ (false = true) by decide)] at H; exact H
      clear H
      have H := H1
      clear H1
      have H' := Aside0.mk H
      clear H
      go_wp2
      repeat (go_quiet (fail); try go_wp2)
      go_meet
      case rel => exact ⟨_, (t153), (by first | rfl | (simp; done) | (simp [*]; done)), H', ⟨by have := HJ3.out; first | omega | exact Nat.le_refl _⟩, ⟨by (with_reducible repeat (first | refine blk_drewN ?_ _ | refine blk_drew ?_ | refine blk_alloc ?_ _)); exact BK150.out⟩, ⟨by repeat (first | (with_reducible first | exact HB.out | apply below_alloc | apply pw_below_drewN | apply below_drew1 | refine below_set ?_ GE150.out) | exact HB.out)⟩⟩
    case rest =>
     clear HC13
     try clear c1
     try clear p2
     try clear c3
     try clear p6
     try clear c9
     try clear c16
     try clear c18
     try clear hcz10_0
     try clear hcz10_1
     try clear hcz10_2
     try clear hcz10_3
     try clear hcz10_4
     try clear hcz10_5
     try clear hcz10_6
     try clear hcz10_7
     try clear hcz11_0
     try clear hcz11_1
     try clear hcz11_2
     try clear hcz11_3
     try clear hcz11_4
     try clear hcz11_5
     try clear hcz11_6
     try clear hcz11_7
     try clear hcz14_0
     try clear hcz14_1
     try clear hcz14_2
     try clear hcz14_3
     try clear hcz14_4
     try clear hcz14_5
     try clear hcz14_6
     try clear hcz14_7
     try clear hcz18_0
     try clear hcz18_1
     try clear hcz18_2
     try clear hcz18_3
     try clear hcz18_4
     try clear hcz18_5
     try clear hcz18_6
     try clear hcz18_7
     try clear hcz6_0
     try clear hcz6_1
     try clear hcz6_2
     try clear hcz6_3
     try clear hcz6_4
     try clear hcz6_5
     try clear hcz6_6
     try clear hcz6_7
     try clear hfz10_0
     try clear hfz10_1
     try clear hfz10_2
     try clear hfz10_3
     try clear hfz10_4
     try clear hfz10_5
     try clear hfz10_6
     try clear hfz10_7
     try clear hfz11_0
     try clear hfz11_1
     try clear hfz11_2
     try clear hfz11_3
     try clear hfz11_4
     try clear hfz11_5
     try clear hfz11_6
     try clear hfz11_7
     try clear hfz14_0
     try clear hfz14_1
     try clear hfz14_2
     try clear hfz14_3
     try clear hfz14_4
     try clear hfz14_5
     try clear hfz14_6
     try clear hfz14_7
     try clear hfz18_0
     try clear hfz18_1
     try clear hfz18_2
     try clear hfz18_3
     try clear hfz18_4
     try clear hfz18_5
     try clear hfz18_6
     try clear hfz18_7
     try clear hfz6_0
     try clear hfz6_1
     try clear hfz6_2
     try clear hfz6_3
     try clear hfz6_4
     try clear hfz6_5
     try clear hfz6_6
     try clear hfz6_7
     try clear p2
     obtain ⟨kq, x5_12, rfl, HA, HJ12, BK150, HB⟩ := hcut
     cases kq with
     | zero => exact absurd HA.out (by simp [jacquardref18_Put.j1])
     | succ kj12 =>
      have H := HA.out
      clear HA
      simp only [jacquardref18_Put.j1] at H
      replace H := Option.bind_eq_some_iff.mp H
      obtain ⟨t155, A200, H⟩ := H
      replace H : (jacquardref18_Put.l0 kj12 x4_3 x5_12 t155 0 a0_0 a0_1 a0_2 a0_3 a0_4 a0_5 a0_6 l0_7) = some (r1, r2) := H
      have A20 := Aside0.mk A200
      clear A200
      have H' := Aside0.mk H
      clear H
      have hcz21_0 : wc.cell? ⟨gb150, 0, none⟩ = some (.int .i64 a0_0) := (blk_cell BK150.out 0).trans rfl
      have hcz21_1 : wc.cell? ⟨gb150, 1, none⟩ = some (.int .i64 a0_1) := (blk_cell BK150.out 1).trans rfl
      have hcz21_2 : wc.cell? ⟨gb150, 2, none⟩ = some (.int .i64 a0_2) := (blk_cell BK150.out 2).trans rfl
      have hcz21_3 : wc.cell? ⟨gb150, 3, none⟩ = some (.int .i64 a0_3) := (blk_cell BK150.out 3).trans rfl
      have hcz21_4 : wc.cell? ⟨gb150, 4, none⟩ = some (.int .i64 a0_4) := (blk_cell BK150.out 4).trans rfl
      have hcz21_5 : wc.cell? ⟨gb150, 5, none⟩ = some (.int .i64 a0_5) := (blk_cell BK150.out 5).trans rfl
      have hcz21_6 : wc.cell? ⟨gb150, 6, none⟩ = some (.int .i32 a0_6) := (blk_cell BK150.out 6).trans rfl
      have hcz21_7 : wc.cell? ⟨gb150, 7, none⟩ = some (.slice A0_7 l0_7.length c0_7) := (blk_cell BK150.out 7).trans rfl
      have hfz21_0 := blk_frozen BK150.out 0
      have hfz21_1 := blk_frozen BK150.out 1
      have hfz21_2 := blk_frozen BK150.out 2
      have hfz21_3 := blk_frozen BK150.out 3
      have hfz21_4 := blk_frozen BK150.out 4
      have hfz21_5 := blk_frozen BK150.out 5
      have hfz21_6 := blk_frozen BK150.out 6
      have hfz21_7 := blk_frozen BK150.out 7
      go_wp2_with (first | (go_at_call 49; (with_reducible refine (jacquardref18_Regs.calls kj12 a0_0 a0_1 a0_2 a0_3 a0_4 a0_5 a0_6 _ _ l0_7 t155 _ ?side1 ?side2 A20.out).mono ?_); (case side1 => repeat (first | exact (Kd.C_below HR0_7.out HB.out) | (with_reducible refine Kd.C_alloc ?_ _) | (with_reducible refine Kd.C_drewN ?_ _) | (with_reducible refine Kd.C_drew ?_))); (case side2 => exact HC0_7.out); rintro e w22 ⟨v156, rfl, ho0, hb⟩; have n0_ := Aside0.mk (Kd.R_lower ho0 (below_size (by repeat (first | (with_reducible first | exact HB.out | apply below_alloc | apply pw_below_drewN | apply below_drew1 | refine below_set ?_ GE150.out) | exact HB.out)))); have n1_ := Aside0.mk (blk_below (g := gb150) (o := .cells #[.int .i64 a0_0, .int .i64 a0_1, .int .i64 a0_2, .int .i64 a0_3, .int .i64 a0_4, .int .i64 a0_5, .int .i32 a0_6, .slice A0_7 l0_7.length c0_7] 24 (0, 0)) (by (with_reducible repeat (first | refine blk_drewN ?_ _ | refine blk_drew ?_ | refine blk_alloc ?_ _)); exact BK150.out) hb); have n2_ := Aside0.mk (below_step (by repeat (first | (with_reducible first | exact HB.out | apply below_alloc | apply pw_below_drewN | apply below_drew1 | refine below_set ?_ GE150.out) | exact HB.out)) hb); clear BK150; clear HB; have HO157 := n0_; have BK150 := n1_; have HB := n2_; clear n0_ n1_ n2_; (try clear hb); (try clear hb2); (try clear hk); (try clear hi); (try clear ho0)))
      repeat (go_quiet (first | (go_at_call 49; (with_reducible refine (jacquardref18_Regs.calls kj12 a0_0 a0_1 a0_2 a0_3 a0_4 a0_5 a0_6 _ _ l0_7 t155 _ ?side1 ?side2 A20.out).mono ?_); (case side1 => repeat (first | exact (Kd.C_below HR0_7.out HB.out) | (with_reducible refine Kd.C_alloc ?_ _) | (with_reducible refine Kd.C_drewN ?_ _) | (with_reducible refine Kd.C_drew ?_))); (case side2 => exact HC0_7.out); rintro e w22 ⟨v156, rfl, ho0, hb⟩; have n0_ := Aside0.mk (Kd.R_lower ho0 (below_size (by repeat (first | (with_reducible first | exact HB.out | apply below_alloc | apply pw_below_drewN | apply below_drew1 | refine below_set ?_ GE150.out) | exact HB.out)))); have n1_ := Aside0.mk (blk_below (g := gb150) (o := .cells #[.int .i64 a0_0, .int .i64 a0_1, .int .i64 a0_2, .int .i64 a0_3, .int .i64 a0_4, .int .i64 a0_5, .int .i32 a0_6, .slice A0_7 l0_7.length c0_7] 24 (0, 0)) (by (with_reducible repeat (first | refine blk_drewN ?_ _ | refine blk_drew ?_ | refine blk_alloc ?_ _)); exact BK150.out) hb); have n2_ := Aside0.mk (below_step (by repeat (first | (with_reducible first | exact HB.out | apply below_alloc | apply pw_below_drewN | apply below_drew1 | refine below_set ?_ GE150.out) | exact HB.out)) hb); clear BK150; clear HB; have HO157 := n0_; have BK150 := n1_; have HB := n2_; clear n0_ n1_ n2_; (try clear hb); (try clear hb2); (try clear hk); (try clear hi); (try clear ho0))); try go_wp2_with (first | (go_at_call 49; (with_reducible refine (jacquardref18_Regs.calls kj12 a0_0 a0_1 a0_2 a0_3 a0_4 a0_5 a0_6 _ _ l0_7 t155 _ ?side1 ?side2 A20.out).mono ?_); (case side1 => repeat (first | exact (Kd.C_below HR0_7.out HB.out) | (with_reducible refine Kd.C_alloc ?_ _) | (with_reducible refine Kd.C_drewN ?_ _) | (with_reducible refine Kd.C_drew ?_))); (case side2 => exact HC0_7.out); rintro e w22 ⟨v156, rfl, ho0, hb⟩; have n0_ := Aside0.mk (Kd.R_lower ho0 (below_size (by repeat (first | (with_reducible first | exact HB.out | apply below_alloc | apply pw_below_drewN | apply below_drew1 | refine below_set ?_ GE150.out) | exact HB.out)))); have n1_ := Aside0.mk (blk_below (g := gb150) (o := .cells #[.int .i64 a0_0, .int .i64 a0_1, .int .i64 a0_2, .int .i64 a0_3, .int .i64 a0_4, .int .i64 a0_5, .int .i32 a0_6, .slice A0_7 l0_7.length c0_7] 24 (0, 0)) (by (with_reducible repeat (first | refine blk_drewN ?_ _ | refine blk_drew ?_ | refine blk_alloc ?_ _)); exact BK150.out) hb); have n2_ := Aside0.mk (below_step (by repeat (first | (with_reducible first | exact HB.out | apply below_alloc | apply pw_below_drewN | apply below_drew1 | refine below_set ?_ GE150.out) | exact HB.out)) hb); clear BK150; clear HB; have HO157 := n0_; have BK150 := n1_; have HB := n2_; clear n0_ n1_ n2_; (try clear hb); (try clear hb2); (try clear hk); (try clear hi); (try clear ho0))))
      go_loopg [7] kj12 (fun kq v7 w' => ∃ (x7_3 : Int), v7 = .int .i64 x7_3 ∧ Aside0 (jacquardref18_Put.l0 kq x4_3 x5_12 t155 x7_3 a0_0 a0_1 a0_2 a0_3 a0_4 a0_5 a0_6 l0_7 = some (r1, r2)) ∧ Aside0 (kq ≤ kj12) ∧ Aside0 (Kd.R (Kd.int .i64) 3 w' w.heap.size (fun _ => True) v156 t155) ∧ Aside0 (w'.heap[gb150]? = some (.cells #[.int .i64 a0_0, .int .i64 a0_1, .int .i64 a0_2, .int .i64 a0_3, .int .i64 a0_4, .int .i64 a0_5, .int .i32 a0_6, (.slice A0_7 l0_7.length c0_7)] 24 (0, 0))) ∧ Aside0 (Below w.heap.size w w'))
      case atStart => exact ⟨(0), (by first | rfl | (simp; done) | (simp [*]; done)), H', ⟨Nat.le_refl _⟩, ⟨by (with_reducible repeat (first | apply Kd.R_alloc | apply Kd.R_drewN | apply Kd.R_drew)); exact HO157.out⟩, ⟨by (with_reducible repeat (first | refine blk_drewN ?_ _ | refine blk_drew ?_ | refine blk_alloc ?_ _)); exact BK150.out⟩, ⟨by repeat (first | (with_reducible first | exact HB.out | apply below_alloc | apply pw_below_drewN | apply below_drew1 | refine below_set ?_ GE150.out) | exact HB.out)⟩⟩
      case round =>
       clear H'
       try clear c1
       try clear p2
       try clear c3
       try clear p6
       try clear c9
       try clear c16
       try clear c18
       try clear hcz10_0
       try clear hcz10_1
       try clear hcz10_2
       try clear hcz10_3
       try clear hcz10_4
       try clear hcz10_5
       try clear hcz10_6
       try clear hcz10_7
       try clear hcz11_0
       try clear hcz11_1
       try clear hcz11_2
       try clear hcz11_3
       try clear hcz11_4
       try clear hcz11_5
       try clear hcz11_6
       try clear hcz11_7
       try clear hcz14_0
       try clear hcz14_1
       try clear hcz14_2
       try clear hcz14_3
       try clear hcz14_4
       try clear hcz14_5
       try clear hcz14_6
       try clear hcz14_7
       try clear hcz18_0
       try clear hcz18_1
       try clear hcz18_2
       try clear hcz18_3
       try clear hcz18_4
       try clear hcz18_5
       try clear hcz18_6
       try clear hcz18_7
       try clear hcz21_0
       try clear hcz21_1
       try clear hcz21_2
       try clear hcz21_3
       try clear hcz21_4
       try clear hcz21_5
       try clear hcz21_6
       try clear hcz21_7
       try clear hcz6_0
       try clear hcz6_1
       try clear hcz6_2
       try clear hcz6_3
       try clear hcz6_4
       try clear hcz6_5
       try clear hcz6_6
       try clear hcz6_7
       try clear hfz10_0
       try clear hfz10_1
       try clear hfz10_2
       try clear hfz10_3
       try clear hfz10_4
       try clear hfz10_5
       try clear hfz10_6
       try clear hfz10_7
       try clear hfz11_0
       try clear hfz11_1
       try clear hfz11_2
       try clear hfz11_3
       try clear hfz11_4
       try clear hfz11_5
       try clear hfz11_6
       try clear hfz11_7
       try clear hfz14_0
       try clear hfz14_1
       try clear hfz14_2
       try clear hfz14_3
       try clear hfz14_4
       try clear hfz14_5
       try clear hfz14_6
       try clear hfz14_7
       try clear hfz18_0
       try clear hfz18_1
       try clear hfz18_2
       try clear hfz18_3
       try clear hfz18_4
       try clear hfz18_5
       try clear hfz18_6
       try clear hfz18_7
       try clear hfz21_0
       try clear hfz21_1
       try clear hfz21_2
       try clear hfz21_3
       try clear hfz21_4
       try clear hfz21_5
       try clear hfz21_6
       try clear hfz21_7
       try clear hfz6_0
       try clear hfz6_1
       try clear hfz6_2
       try clear hfz6_3
       try clear hfz6_4
       try clear hfz6_5
       try clear hfz6_6
       try clear hfz6_7
       try clear p2
       try clear p6
       obtain ⟨x7_3, rfl, HA, HK3, HO_6, BK150, HB⟩ := hrel
       cases gk with
       | zero => exact absurd HA.out (by simp [jacquardref18_Put.l0])
       | succ k3 =>
        have H := HA.out
        clear HA
        simp only [jacquardref18_Put.l0] at H
        by_cases c23 : x7_3 < (t155.length : Int)
        ·rw [if_pos c23] at H
         have c23b0 : decide (x7_3 < (t155.length : Int)) = true := decide_eq_true c23
         clear c23
         by_cases c24 : 0 ≤ x7_3
         ·rw [if_pos c24] at H
          have c24b0 : decide (0 ≤ x7_3) = true := decide_eq_true c24
          clear c24
          by_cases c25 : (rd t155 x7_3) < 0
          ·rw [if_pos c25] at H
           have c25b0 : decide ((rd t155 x7_3) < 0) = true := decide_eq_true c25
           clear c25
           simp only [Option.some.injEq, Prod.mk.injEq] at H
           obtain ⟨rfl, rfl⟩ := H
           obtain ⟨Ao26, co26, eo26⟩ := Kd.R_slice HO_6.out
           subst eo26
           have p158 : 0 ≤ (x7_3 : Int) := of_decide_eq_true (by first | (with_reducible assumption) | assumption)
           have q158 : x7_3 < (t155.length : Int) := of_decide_eq_true (by first | (with_reducible assumption) | assumption)
           obtain ⟨ad158, e158, hx158_0⟩ := Kd.at_int (Kd.R_reads' HO_6.out).2.2 x7_3 p158 q158
           cases e158
           replace p158 := eq_true p158
           replace q158 := eq_true q158
           go_wp2
           repeat (go_quiet (fail); try go_wp2)
           go_ret2
           exact ⟨by first | rfl | (simp [errW_none, errW_some] <;> rfl) | (simp [*, errW_none, errW_some] <;> rfl), by repeat (first | (with_reducible first | exact HB.out | apply below_alloc | apply pw_below_drewN | apply below_drew1 | refine below_set ?_ GE150.out) | exact HB.out)⟩
          ·rw [if_neg c25] at H
           have c25b0 : decide ((rd t155 x7_3) < 0) = false := decide_eq_false c25
           clear c25
           by_cases c27 : (rd t155 x7_3) > 15
           ·rw [if_pos c27] at H
            have c27b0 : decide (15 < (rd t155 x7_3)) = true := decide_eq_true c27
            clear c27
            simp only [Option.some.injEq, Prod.mk.injEq] at H
            obtain ⟨rfl, rfl⟩ := H
            obtain ⟨Ao28, co28, eo28⟩ := Kd.R_slice HO_6.out
            subst eo28
            have p158 : 0 ≤ (x7_3 : Int) := of_decide_eq_true (by first | (with_reducible assumption) | assumption)
            have q158 : x7_3 < (t155.length : Int) := of_decide_eq_true (by first | (with_reducible assumption) | assumption)
            obtain ⟨ad158, e158, hx158_0⟩ := Kd.at_int (Kd.R_reads' HO_6.out).2.2 x7_3 p158 q158
            cases e158
            replace p158 := eq_true p158
            replace q158 := eq_true q158
            have p159 : 0 ≤ (x7_3 : Int) := of_decide_eq_true (by first | (with_reducible assumption) | assumption)
            have q159 : x7_3 < (t155.length : Int) := of_decide_eq_true (by first | (with_reducible assumption) | assumption)
            obtain ⟨ad159, e159, hx159_0⟩ := Kd.at_int (Kd.R_reads' HO_6.out).2.2 x7_3 p159 q159
            obtain rfl : ad158 = ad159 := (by injection e159)
            replace p159 := eq_true p159
            replace q159 := eq_true q159
            go_wp2
            repeat (go_quiet (fail); try go_wp2)
            go_ret2
            exact ⟨by first | rfl | (simp [errW_none, errW_some] <;> rfl) | (simp [*, errW_none, errW_some] <;> rfl), by repeat (first | (with_reducible first | exact HB.out | apply below_alloc | apply pw_below_drewN | apply below_drew1 | refine below_set ?_ GE150.out) | exact HB.out)⟩
           ·rw [if_neg c27] at H
            have c27b0 : decide (15 < (rd t155 x7_3)) = false := decide_eq_false c27
            clear c27
            have H' := Aside0.mk H
            clear H
            obtain ⟨Ao29, co29, eo29⟩ := Kd.R_slice HO_6.out
            subst eo29
            have p158 : 0 ≤ (x7_3 : Int) := of_decide_eq_true (by first | (with_reducible assumption) | assumption)
            have q158 : x7_3 < (t155.length : Int) := of_decide_eq_true (by first | (with_reducible assumption) | assumption)
            obtain ⟨ad158, e158, hx158_0⟩ := Kd.at_int (Kd.R_reads' HO_6.out).2.2 x7_3 p158 q158
            cases e158
            replace p158 := eq_true p158
            replace q158 := eq_true q158
            have p159 : 0 ≤ (x7_3 : Int) := of_decide_eq_true (by first | (with_reducible assumption) | assumption)
            have q159 : x7_3 < (t155.length : Int) := of_decide_eq_true (by first | (with_reducible assumption) | assumption)
            obtain ⟨ad159, e159, hx159_0⟩ := Kd.at_int (Kd.R_reads' HO_6.out).2.2 x7_3 p159 q159
            obtain rfl : ad158 = ad159 := (by injection e159)
            replace p159 := eq_true p159
            replace q159 := eq_true q159
            go_wp2
            repeat (go_quiet (fail); try go_wp2)
            go_roundg k3
            case measure => have := HJ3.out; have := HJ12.out; have := HK3.out; omega
            case rel => exact ⟨(wrap64 (x7_3 + 1)), (by first | rfl | (simp; done) | (simp [*]; done)), H', ⟨by have := HJ3.out; have := HJ12.out; have := HK3.out; omega⟩, ⟨by (with_reducible repeat (first | apply Kd.R_alloc | apply Kd.R_drewN | apply Kd.R_drew)); exact HO_6.out⟩, ⟨by (with_reducible repeat (first | refine blk_drewN ?_ _ | refine blk_drew ?_ | refine blk_alloc ?_ _)); exact BK150.out⟩, ⟨by repeat (first | (with_reducible first | exact HB.out | apply below_alloc | apply pw_below_drewN | apply below_drew1 | refine below_set ?_ GE150.out) | exact HB.out)⟩⟩
         ·rw [if_neg c24] at H
          exact absurd H (by simp)
        ·rw [if_neg c23] at H
         have c23b0 : decide (x7_3 < (t155.length : Int)) = false := decide_eq_false c23
         clear c23
         have H' := Aside0.mk H
         clear H
         obtain ⟨Ao30, co30, eo30⟩ := Kd.R_slice HO_6.out
         subst eo30
         go_wp2
         repeat (go_quiet (fail); try go_wp2)
         go_loopg [5, 8] k3 (fun kq v5 v8 w' => ∃ (x5_4 : ByteArray) (x8_4 : Int), v5 = .string x5_4 ∧ v8 = .int .i64 x8_4 ∧ Aside0 (jacquardref18_Put.l1 kq x4_3 x5_4 t155 x8_4 a0_0 a0_1 a0_2 a0_3 a0_4 a0_5 a0_6 l0_7 = some (r1, r2)) ∧ Aside0 (kq ≤ k3) ∧ Aside0 (Kd.R (Kd.int .i64) 3 w' w.heap.size (fun _ => True) (.slice Ao30 t155.length co30) t155) ∧ Aside0 (w'.heap[gb150]? = some (.cells #[.int .i64 a0_0, .int .i64 a0_1, .int .i64 a0_2, .int .i64 a0_3, .int .i64 a0_4, .int .i64 a0_5, .int .i32 a0_6, (.slice A0_7 l0_7.length c0_7)] 24 (0, 0))) ∧ Aside0 (Below w.heap.size w w'))
         case atStart => exact ⟨(x5_12), (0), (by first | rfl | (simp; done) | (simp [*]; done)), (by first | rfl | (simp; done) | (simp [*]; done)), H', ⟨Nat.le_refl _⟩, ⟨by (with_reducible repeat (first | apply Kd.R_alloc | apply Kd.R_drewN | apply Kd.R_drew)); exact HO_6.out⟩, ⟨by (with_reducible repeat (first | refine blk_drewN ?_ _ | refine blk_drew ?_ | refine blk_alloc ?_ _)); exact BK150.out⟩, ⟨by repeat (first | (with_reducible first | exact HB.out | apply below_alloc | apply pw_below_drewN | apply below_drew1 | refine below_set ?_ GE150.out) | exact HB.out)⟩⟩
         case round =>
          clear H'
          try clear c1
          try clear p1
          try clear q1
          try clear hx1
          try clear c2
          try clear p2
          try clear c3
          try clear p6
          try clear c9
          try clear p15
          try clear q15
          try clear hx15
          try clear c16
          try clear c18
          try clear c23
          try clear c23b0
          try clear c24
          try clear c24b0
          try clear c25
          try clear c25b0
          try clear c27
          try clear c27b0
          try clear hcz10_0
          try clear hcz10_1
          try clear hcz10_2
          try clear hcz10_3
          try clear hcz10_4
          try clear hcz10_5
          try clear hcz10_6
          try clear hcz10_7
          try clear hcz11_0
          try clear hcz11_1
          try clear hcz11_2
          try clear hcz11_3
          try clear hcz11_4
          try clear hcz11_5
          try clear hcz11_6
          try clear hcz11_7
          try clear hcz14_0
          try clear hcz14_1
          try clear hcz14_2
          try clear hcz14_3
          try clear hcz14_4
          try clear hcz14_5
          try clear hcz14_6
          try clear hcz14_7
          try clear hcz18_0
          try clear hcz18_1
          try clear hcz18_2
          try clear hcz18_3
          try clear hcz18_4
          try clear hcz18_5
          try clear hcz18_6
          try clear hcz18_7
          try clear hcz21_0
          try clear hcz21_1
          try clear hcz21_2
          try clear hcz21_3
          try clear hcz21_4
          try clear hcz21_5
          try clear hcz21_6
          try clear hcz21_7
          try clear hcz6_0
          try clear hcz6_1
          try clear hcz6_2
          try clear hcz6_3
          try clear hcz6_4
          try clear hcz6_5
          try clear hcz6_6
          try clear hcz6_7
          try clear hfz10_0
          try clear hfz10_1
          try clear hfz10_2
          try clear hfz10_3
          try clear hfz10_4
          try clear hfz10_5
          try clear hfz10_6
          try clear hfz10_7
          try clear hfz11_0
          try clear hfz11_1
          try clear hfz11_2
          try clear hfz11_3
          try clear hfz11_4
          try clear hfz11_5
          try clear hfz11_6
          try clear hfz11_7
          try clear hfz14_0
          try clear hfz14_1
          try clear hfz14_2
          try clear hfz14_3
          try clear hfz14_4
          try clear hfz14_5
          try clear hfz14_6
          try clear hfz14_7
          try clear hfz18_0
          try clear hfz18_1
          try clear hfz18_2
          try clear hfz18_3
          try clear hfz18_4
          try clear hfz18_5
          try clear hfz18_6
          try clear hfz18_7
          try clear hfz21_0
          try clear hfz21_1
          try clear hfz21_2
          try clear hfz21_3
          try clear hfz21_4
          try clear hfz21_5
          try clear hfz21_6
          try clear hfz21_7
          try clear hfz6_0
          try clear hfz6_1
          try clear hfz6_2
          try clear hfz6_3
          try clear hfz6_4
          try clear hfz6_5
          try clear hfz6_6
          try clear hfz6_7
          try clear hx158_0
          try clear hx159_0
          try clear p158
          try clear p159
          try clear p2
          try clear p6
          try clear q158
          try clear q159
          obtain ⟨x5_4, x8_4, rfl, rfl, HA, HK4, HO_6, BK150, HB⟩ := hrel
          cases gk with
          | zero => exact absurd HA.out (by simp [jacquardref18_Put.l1])
          | succ k4 =>
           have H := HA.out
           clear HA
           simp only [jacquardref18_Put.l1] at H
           by_cases c31 : x8_4 < (t155.length : Int)
           ·rw [if_pos c31] at H
            have c31b0 : decide (x8_4 < (t155.length : Int)) = true := decide_eq_true c31
            clear c31
            by_cases c32 : (wrap64 (x8_4 + 1)) < (t155.length : Int)
            ·rw [if_pos c32] at H
             have c32b0 : decide ((wrap64 (x8_4 + 1)) < (t155.length : Int)) = true := decide_eq_true c32
             clear c32
             obtain ⟨ji33, hji33⟩ : ∃ j_ : Int, (wrap64 (x8_4 + 1)) = j_ := ⟨_, rfl⟩
             replace H : (if 0 ≤ (ji33) then (if 0 ≤ x8_4 then ((jacquardref18_Bytes.f k4 (wrap64 ((wrap64 (16 * (rd t155 x8_4))) + (rd t155 (ji33)))) 1).bind fun t162 => (if x5_4.size + t162.size ≤ 9223372036854775807 then (jacquardref18_Put.l1 k4 x4_3 (x5_4 ++ t162) t155 (wrap64 (x8_4 + 2)) a0_0 a0_1 a0_2 a0_3 a0_4 a0_5 a0_6 l0_7) else (none))) else (none)) else (none)) = some (r1, r2) := by first | (rw [hji33] at H; exact H) | (simp only [hji33] at H ⊢; exact H)
             (try rw [hji33] at c32b0)
             have hji33w : (IntKind.i64.wrap (x8_4 + 1)) = ji33 := (i64_w _).trans hji33
             by_cases c34 : 0 ≤ (ji33)
             ·rw [if_pos c34] at H
              have c34b0 : decide (0 ≤ (ji33)) = true := decide_eq_true c34
              clear c34
              by_cases c35 : 0 ≤ x8_4
              ·rw [if_pos c35] at H
               have c35b0 : decide (0 ≤ x8_4) = true := decide_eq_true c35
               clear c35
               replace H := Option.bind_eq_some_iff.mp H
               obtain ⟨t162, A360, H⟩ := H
               replace H : (if x5_4.size + t162.size ≤ 9223372036854775807 then (jacquardref18_Put.l1 k4 x4_3 (x5_4 ++ t162) t155 (wrap64 (x8_4 + 2)) a0_0 a0_1 a0_2 a0_3 a0_4 a0_5 a0_6 l0_7) else (none)) = some (r1, r2) := H
               have A36 := Aside0.mk A360
               clear A360
               by_cases c37 : x5_4.size + t162.size ≤ 9223372036854775807
               ·rw [if_pos c37] at H
                have c37b0 := eq_true c37
                have c37b1 : decide (x5_4.size + t162.size ≤ 9223372036854775807) = true := decide_eq_true c37
                try have c37b2 : (9223372036854775807 < x5_4.size + t162.size) = False := eq_false (Nat.not_lt.2 c37)
                have H' := Aside0.mk H
                clear H
                have p160 : 0 ≤ ((ji33) : Int) := of_decide_eq_true (by first | (with_reducible assumption) | assumption)
                have q160 : (ji33) < (t155.length : Int) := of_decide_eq_true (by first | (with_reducible assumption) | assumption)
                obtain ⟨ad160, e160, hx160_0⟩ := Kd.at_int (Kd.R_reads' HO_6.out).2.2 (ji33) p160 q160
                cases e160
                replace p160 := eq_true p160
                replace q160 := eq_true q160
                have p161 : 0 ≤ (x8_4 : Int) := of_decide_eq_true (by first | (with_reducible assumption) | assumption)
                have q161 : x8_4 < (t155.length : Int) := of_decide_eq_true (by first | (with_reducible assumption) | assumption)
                obtain ⟨ad161, e161, hx161_0⟩ := Kd.at_int (Kd.R_reads' HO_6.out).2.2 x8_4 p161 q161
                obtain rfl : ad160 = ad161 := (by injection e161)
                replace p161 := eq_true p161
                replace q161 := eq_true q161
                go_wp2_with (first | (go_at_call 48; (with_reducible refine (jacquardref18_Bytes.calls k4 (wrap64 ((wrap64 (16 * (rd t155 x8_4))) + (rd t155 (ji33)))) 1 t162 _ A36.out).mono ?_); rintro e w38 ⟨rfl, hb⟩; have n0_ := Aside0.mk (Kd.R_below (by (with_reducible repeat (first | apply Kd.R_alloc | apply Kd.R_drewN | apply Kd.R_drew)); exact HO_6.out) hb); have n1_ := Aside0.mk (blk_below (g := gb150) (o := .cells #[.int .i64 a0_0, .int .i64 a0_1, .int .i64 a0_2, .int .i64 a0_3, .int .i64 a0_4, .int .i64 a0_5, .int .i32 a0_6, .slice A0_7 l0_7.length c0_7] 24 (0, 0)) (by (with_reducible repeat (first | refine blk_drewN ?_ _ | refine blk_drew ?_ | refine blk_alloc ?_ _)); exact BK150.out) hb); have n2_ := Aside0.mk (below_step (by repeat (first | (with_reducible first | exact HB.out | apply below_alloc | apply pw_below_drewN | apply below_drew1 | refine below_set ?_ GE150.out) | exact HB.out)) hb); clear HO_6; clear BK150; clear HB; have HO_6 := n0_; have BK150 := n1_; have HB := n2_; clear n0_ n1_ n2_; (try clear hb); (try clear hb2); (try clear hk); (try clear hi)))
                repeat (go_quiet (first | (go_at_call 48; (with_reducible refine (jacquardref18_Bytes.calls k4 (wrap64 ((wrap64 (16 * (rd t155 x8_4))) + (rd t155 (ji33)))) 1 t162 _ A36.out).mono ?_); rintro e w38 ⟨rfl, hb⟩; have n0_ := Aside0.mk (Kd.R_below (by (with_reducible repeat (first | apply Kd.R_alloc | apply Kd.R_drewN | apply Kd.R_drew)); exact HO_6.out) hb); have n1_ := Aside0.mk (blk_below (g := gb150) (o := .cells #[.int .i64 a0_0, .int .i64 a0_1, .int .i64 a0_2, .int .i64 a0_3, .int .i64 a0_4, .int .i64 a0_5, .int .i32 a0_6, .slice A0_7 l0_7.length c0_7] 24 (0, 0)) (by (with_reducible repeat (first | refine blk_drewN ?_ _ | refine blk_drew ?_ | refine blk_alloc ?_ _)); exact BK150.out) hb); have n2_ := Aside0.mk (below_step (by repeat (first | (with_reducible first | exact HB.out | apply below_alloc | apply pw_below_drewN | apply below_drew1 | refine below_set ?_ GE150.out) | exact HB.out)) hb); clear HO_6; clear BK150; clear HB; have HO_6 := n0_; have BK150 := n1_; have HB := n2_; clear n0_ n1_ n2_; (try clear hb); (try clear hb2); (try clear hk); (try clear hi))); try go_wp2_with (first | (go_at_call 48; (with_reducible refine (jacquardref18_Bytes.calls k4 (wrap64 ((wrap64 (16 * (rd t155 x8_4))) + (rd t155 (ji33)))) 1 t162 _ A36.out).mono ?_); rintro e w38 ⟨rfl, hb⟩; have n0_ := Aside0.mk (Kd.R_below (by (with_reducible repeat (first | apply Kd.R_alloc | apply Kd.R_drewN | apply Kd.R_drew)); exact HO_6.out) hb); have n1_ := Aside0.mk (blk_below (g := gb150) (o := .cells #[.int .i64 a0_0, .int .i64 a0_1, .int .i64 a0_2, .int .i64 a0_3, .int .i64 a0_4, .int .i64 a0_5, .int .i32 a0_6, .slice A0_7 l0_7.length c0_7] 24 (0, 0)) (by (with_reducible repeat (first | refine blk_drewN ?_ _ | refine blk_drew ?_ | refine blk_alloc ?_ _)); exact BK150.out) hb); have n2_ := Aside0.mk (below_step (by repeat (first | (with_reducible first | exact HB.out | apply below_alloc | apply pw_below_drewN | apply below_drew1 | refine below_set ?_ GE150.out) | exact HB.out)) hb); clear HO_6; clear BK150; clear HB; have HO_6 := n0_; have BK150 := n1_; have HB := n2_; clear n0_ n1_ n2_; (try clear hb); (try clear hb2); (try clear hk); (try clear hi))))
                go_roundg k4
                case measure => have := HJ3.out; have := HJ12.out; have := HK3.out; have := HK4.out; omega
                case rel => exact ⟨(x5_4 ++ t162), (wrap64 (x8_4 + 2)), (by first | rfl | (simp; done) | (simp [*]; done)), (by first | rfl | (simp; done) | (simp [*]; done)), H', ⟨by have := HJ3.out; have := HJ12.out; have := HK3.out; have := HK4.out; omega⟩, ⟨by (with_reducible repeat (first | apply Kd.R_alloc | apply Kd.R_drewN | apply Kd.R_drew)); exact HO_6.out⟩, ⟨by (with_reducible repeat (first | refine blk_drewN ?_ _ | refine blk_drew ?_ | refine blk_alloc ?_ _)); exact BK150.out⟩, ⟨by repeat (first | (with_reducible first | exact HB.out | apply below_alloc | apply pw_below_drewN | apply below_drew1 | refine below_set ?_ GE150.out) | exact HB.out)⟩⟩
               ·rw [if_neg c37] at H
                exact absurd H (by simp)
              ·rw [if_neg c35] at H
               exact absurd H (by simp)
             ·rw [if_neg c34] at H
              exact absurd H (by simp)
            ·rw [if_neg c32] at H
             have c32b0 : decide ((wrap64 (x8_4 + 1)) < (t155.length : Int)) = false := decide_eq_false c32
             clear c32
             by_cases c39 : 0 ≤ x8_4
             ·rw [if_pos c39] at H
              have c39b0 : decide (0 ≤ x8_4) = true := decide_eq_true c39
              clear c39
              replace H := Option.bind_eq_some_iff.mp H
              obtain ⟨t164, A400, H⟩ := H
              replace H : (if x5_4.size + t164.size ≤ 9223372036854775807 then (jacquardref18_Put.l1 k4 x4_3 (x5_4 ++ t164) t155 (wrap64 (x8_4 + 2)) a0_0 a0_1 a0_2 a0_3 a0_4 a0_5 a0_6 l0_7) else (none)) = some (r1, r2) := H
              have A40 := Aside0.mk A400
              clear A400
              by_cases c41 : x5_4.size + t164.size ≤ 9223372036854775807
              ·rw [if_pos c41] at H
               have c41b0 := eq_true c41
               have c41b1 : decide (x5_4.size + t164.size ≤ 9223372036854775807) = true := decide_eq_true c41
               try have c41b2 : (9223372036854775807 < x5_4.size + t164.size) = False := eq_false (Nat.not_lt.2 c41)
               have H' := Aside0.mk H
               clear H
               have p163 : 0 ≤ (x8_4 : Int) := of_decide_eq_true (by first | (with_reducible assumption) | assumption)
               have q163 : x8_4 < (t155.length : Int) := of_decide_eq_true (by first | (with_reducible assumption) | assumption)
               obtain ⟨ad163, e163, hx163_0⟩ := Kd.at_int (Kd.R_reads' HO_6.out).2.2 x8_4 p163 q163
               cases e163
               replace p163 := eq_true p163
               replace q163 := eq_true q163
               go_wp2_with (first | (go_at_call 48; (with_reducible refine (jacquardref18_Bytes.calls k4 (wrap64 (wrap64 (16 * (rd t155 x8_4)))) 1 t164 _ A40.out).mono ?_); rintro e w42 ⟨rfl, hb⟩; have n0_ := Aside0.mk (Kd.R_below (by (with_reducible repeat (first | apply Kd.R_alloc | apply Kd.R_drewN | apply Kd.R_drew)); exact HO_6.out) hb); have n1_ := Aside0.mk (blk_below (g := gb150) (o := .cells #[.int .i64 a0_0, .int .i64 a0_1, .int .i64 a0_2, .int .i64 a0_3, .int .i64 a0_4, .int .i64 a0_5, .int .i32 a0_6, .slice A0_7 l0_7.length c0_7] 24 (0, 0)) (by (with_reducible repeat (first | refine blk_drewN ?_ _ | refine blk_drew ?_ | refine blk_alloc ?_ _)); exact BK150.out) hb); have n2_ := Aside0.mk (below_step (by repeat (first | (with_reducible first | exact HB.out | apply below_alloc | apply pw_below_drewN | apply below_drew1 | refine below_set ?_ GE150.out) | exact HB.out)) hb); clear HO_6; clear BK150; clear HB; have HO_6 := n0_; have BK150 := n1_; have HB := n2_; clear n0_ n1_ n2_; (try clear hb); (try clear hb2); (try clear hk); (try clear hi)))
               repeat (go_quiet (first | (go_at_call 48; (with_reducible refine (jacquardref18_Bytes.calls k4 (wrap64 (wrap64 (16 * (rd t155 x8_4)))) 1 t164 _ A40.out).mono ?_); rintro e w42 ⟨rfl, hb⟩; have n0_ := Aside0.mk (Kd.R_below (by (with_reducible repeat (first | apply Kd.R_alloc | apply Kd.R_drewN | apply Kd.R_drew)); exact HO_6.out) hb); have n1_ := Aside0.mk (blk_below (g := gb150) (o := .cells #[.int .i64 a0_0, .int .i64 a0_1, .int .i64 a0_2, .int .i64 a0_3, .int .i64 a0_4, .int .i64 a0_5, .int .i32 a0_6, .slice A0_7 l0_7.length c0_7] 24 (0, 0)) (by (with_reducible repeat (first | refine blk_drewN ?_ _ | refine blk_drew ?_ | refine blk_alloc ?_ _)); exact BK150.out) hb); have n2_ := Aside0.mk (below_step (by repeat (first | (with_reducible first | exact HB.out | apply below_alloc | apply pw_below_drewN | apply below_drew1 | refine below_set ?_ GE150.out) | exact HB.out)) hb); clear HO_6; clear BK150; clear HB; have HO_6 := n0_; have BK150 := n1_; have HB := n2_; clear n0_ n1_ n2_; (try clear hb); (try clear hb2); (try clear hk); (try clear hi))); try go_wp2_with (first | (go_at_call 48; (with_reducible refine (jacquardref18_Bytes.calls k4 (wrap64 (wrap64 (16 * (rd t155 x8_4)))) 1 t164 _ A40.out).mono ?_); rintro e w42 ⟨rfl, hb⟩; have n0_ := Aside0.mk (Kd.R_below (by (with_reducible repeat (first | apply Kd.R_alloc | apply Kd.R_drewN | apply Kd.R_drew)); exact HO_6.out) hb); have n1_ := Aside0.mk (blk_below (g := gb150) (o := .cells #[.int .i64 a0_0, .int .i64 a0_1, .int .i64 a0_2, .int .i64 a0_3, .int .i64 a0_4, .int .i64 a0_5, .int .i32 a0_6, .slice A0_7 l0_7.length c0_7] 24 (0, 0)) (by (with_reducible repeat (first | refine blk_drewN ?_ _ | refine blk_drew ?_ | refine blk_alloc ?_ _)); exact BK150.out) hb); have n2_ := Aside0.mk (below_step (by repeat (first | (with_reducible first | exact HB.out | apply below_alloc | apply pw_below_drewN | apply below_drew1 | refine below_set ?_ GE150.out) | exact HB.out)) hb); clear HO_6; clear BK150; clear HB; have HO_6 := n0_; have BK150 := n1_; have HB := n2_; clear n0_ n1_ n2_; (try clear hb); (try clear hb2); (try clear hk); (try clear hi))))
               go_roundg k4
               case measure => have := HJ3.out; have := HJ12.out; have := HK3.out; have := HK4.out; omega
               case rel => exact ⟨(x5_4 ++ t164), (wrap64 (x8_4 + 2)), (by first | rfl | (simp; done) | (simp [*]; done)), (by first | rfl | (simp; done) | (simp [*]; done)), H', ⟨by have := HJ3.out; have := HJ12.out; have := HK3.out; have := HK4.out; omega⟩, ⟨by (with_reducible repeat (first | apply Kd.R_alloc | apply Kd.R_drewN | apply Kd.R_drew)); exact HO_6.out⟩, ⟨by (with_reducible repeat (first | refine blk_drewN ?_ _ | refine blk_drew ?_ | refine blk_alloc ?_ _)); exact BK150.out⟩, ⟨by repeat (first | (with_reducible first | exact HB.out | apply below_alloc | apply pw_below_drewN | apply below_drew1 | refine below_set ?_ GE150.out) | exact HB.out)⟩⟩
              ·rw [if_neg c41] at H
               exact absurd H (by simp)
             ·rw [if_neg c39] at H
              exact absurd H (by simp)
           ·rw [if_neg c31] at H
            have c31b0 : decide (x8_4 < (t155.length : Int)) = false := decide_eq_false c31
            clear c31
            replace H := Option.bind_eq_some_iff.mp H
            obtain ⟨t165, A430, H⟩ := H
            replace H : (if 0 ≤ (wrap64 ((t165.size : Int) - 1)) then (if (wrap64 ((t165.size : Int) - 1)) < (t165.size : Int) then ((jacquardref18_Of.f (bt t165 (wrap64 ((t165.size : Int) - 1))) x4_3).bind fun bt166 => (if (bt t165 (wrap64 ((t165.size : Int) - 1))) = 101 then ((jacquardref18_Bytes.f k4 a0_2 1).bind fun t170 => (if x5_4.size + t170.size ≤ 9223372036854775807 then (some (x5_4 ++ t170, 0)) else (none))) else (if (bt t165 (wrap64 ((t165.size : Int) - 1))) = 116 then ((jacquardref18_Bytes.f k4 (l0_7.length : Int) 1).bind fun t171 => (if x5_4.size + t171.size ≤ 9223372036854775807 then (jacquardref18_Put.l2 k4 (x5_4 ++ t171) 0 a0_0 a0_1 a0_2 a0_3 a0_4 a0_5 a0_6 l0_7 bt166.1 bt166.2.1 bt166.2.2) else (none))) else (if bt166.1 = 0 then (some (x5_4, 0)) else (if (wrap64 (a0_6)) < bt166.2.1 then (jacquardref18_Put.j5 k4 x5_4 (bt t165 (wrap64 ((t165.size : Int) - 1))) true a0_0 a0_1 a0_2 a0_3 a0_4 a0_5 a0_6 l0_7 bt166.1 bt166.2.1 bt166.2.2) else (jacquardref18_Put.j5 k4 x5_4 (bt t165 (wrap64 ((t165.size : Int) - 1))) (decide ((wrap64 (a0_6)) > bt166.2.2)) a0_0 a0_1 a0_2 a0_3 a0_4 a0_5 a0_6 l0_7 bt166.1 bt166.2.1 bt166.2.2)))))) else (none)) else (none)) = some (r1, r2) := H
            have A43 := Aside0.mk A430
            clear A430
            obtain ⟨ji44, hji44⟩ : ∃ j_ : Int, (wrap64 ((t165.size : Int) - 1)) = j_ := ⟨_, rfl⟩
            replace H : (if 0 ≤ (ji44) then (if (ji44) < (t165.size : Int) then ((jacquardref18_Of.f (bt t165 (ji44)) x4_3).bind fun bt166 => (if (bt t165 (ji44)) = 101 then ((jacquardref18_Bytes.f k4 a0_2 1).bind fun t170 => (if x5_4.size + t170.size ≤ 9223372036854775807 then (some (x5_4 ++ t170, 0)) else (none))) else (if (bt t165 (ji44)) = 116 then ((jacquardref18_Bytes.f k4 (l0_7.length : Int) 1).bind fun t171 => (if x5_4.size + t171.size ≤ 9223372036854775807 then (jacquardref18_Put.l2 k4 (x5_4 ++ t171) 0 a0_0 a0_1 a0_2 a0_3 a0_4 a0_5 a0_6 l0_7 bt166.1 bt166.2.1 bt166.2.2) else (none))) else (if bt166.1 = 0 then (some (x5_4, 0)) else (if (wrap64 (a0_6)) < bt166.2.1 then (jacquardref18_Put.j5 k4 x5_4 (bt t165 (ji44)) true a0_0 a0_1 a0_2 a0_3 a0_4 a0_5 a0_6 l0_7 bt166.1 bt166.2.1 bt166.2.2) else (jacquardref18_Put.j5 k4 x5_4 (bt t165 (ji44)) (decide ((wrap64 (a0_6)) > bt166.2.2)) a0_0 a0_1 a0_2 a0_3 a0_4 a0_5 a0_6 l0_7 bt166.1 bt166.2.1 bt166.2.2)))))) else (none)) else (none)) = some (r1, r2) := by first | (rw [hji44] at H; exact H) | (simp only [hji44] at H ⊢; exact H)
            (try rw [hji44] at A43)
            have hji44w : (IntKind.i64.wrap ((t165.size : Int) - 1)) = ji44 := (i64_w _).trans hji44
            by_cases c45 : 0 ≤ (ji44)
            ·rw [if_pos c45] at H
             have c45b0 : decide (0 ≤ (ji44)) = true := decide_eq_true c45
             clear c45
             by_cases c46 : (ji44) < (t165.size : Int)
             ·rw [if_pos c46] at H
              have c46b0 : decide ((ji44) < (t165.size : Int)) = true := decide_eq_true c46
              clear c46
              replace H := Option.bind_eq_some_iff.mp H
              obtain ⟨⟨t166, t167, t168⟩, A480, H⟩ := H
              replace H : (if (bt t165 (ji44)) = 101 then ((jacquardref18_Bytes.f k4 a0_2 1).bind fun t170 => (if x5_4.size + t170.size ≤ 9223372036854775807 then (some (x5_4 ++ t170, 0)) else (none))) else (if (bt t165 (ji44)) = 116 then ((jacquardref18_Bytes.f k4 (l0_7.length : Int) 1).bind fun t171 => (if x5_4.size + t171.size ≤ 9223372036854775807 then (jacquardref18_Put.l2 k4 (x5_4 ++ t171) 0 a0_0 a0_1 a0_2 a0_3 a0_4 a0_5 a0_6 l0_7 t166 t167 t168) else (none))) else (if t166 = 0 then (some (x5_4, 0)) else (if (wrap64 (a0_6)) < t167 then (jacquardref18_Put.j5 k4 x5_4 (bt t165 (ji44)) true a0_0 a0_1 a0_2 a0_3 a0_4 a0_5 a0_6 l0_7 t166 t167 t168) else (jacquardref18_Put.j5 k4 x5_4 (bt t165 (ji44)) (decide ((wrap64 (a0_6)) > t168)) a0_0 a0_1 a0_2 a0_3 a0_4 a0_5 a0_6 l0_7 t166 t167 t168))))) = some (r1, r2) := H
              have A48 := Aside0.mk A480
              clear A480
              by_cases c49 : (bt t165 (ji44)) = 101
              ·rw [if_pos c49] at H
               have c49b0 : ((bt t165 (ji44)) == 101) = true := beq_iff_eq.mpr c49
               have c49b1 : ((bt t165 (ji44)) != 101) = false := bne_eq_false_iff_eq.mpr c49
               clear c49
               replace H := Option.bind_eq_some_iff.mp H
               obtain ⟨t170, A500, H⟩ := H
               replace H : (if x5_4.size + t170.size ≤ 9223372036854775807 then (some (x5_4 ++ t170, 0)) else (none)) = some (r1, r2) := H
               have A50 := Aside0.mk A500
               clear A500
               by_cases c51 : x5_4.size + t170.size ≤ 9223372036854775807
               ·rw [if_pos c51] at H
                have c51b0 := eq_true c51
                have c51b1 : decide (x5_4.size + t170.size ≤ 9223372036854775807) = true := decide_eq_true c51
                try have c51b2 : (9223372036854775807 < x5_4.size + t170.size) = False := eq_false (Nat.not_lt.2 c51)
                simp only [Option.some.injEq, Prod.mk.injEq] at H
                obtain ⟨rfl, rfl⟩ := H
                have hcz52_0 : wr.cell? ⟨gb150, 0, none⟩ = some (.int .i64 a0_0) := (blk_cell BK150.out 0).trans rfl
                have hcz52_1 : wr.cell? ⟨gb150, 1, none⟩ = some (.int .i64 a0_1) := (blk_cell BK150.out 1).trans rfl
                have hcz52_2 : wr.cell? ⟨gb150, 2, none⟩ = some (.int .i64 a0_2) := (blk_cell BK150.out 2).trans rfl
                have hcz52_3 : wr.cell? ⟨gb150, 3, none⟩ = some (.int .i64 a0_3) := (blk_cell BK150.out 3).trans rfl
                have hcz52_4 : wr.cell? ⟨gb150, 4, none⟩ = some (.int .i64 a0_4) := (blk_cell BK150.out 4).trans rfl
                have hcz52_5 : wr.cell? ⟨gb150, 5, none⟩ = some (.int .i64 a0_5) := (blk_cell BK150.out 5).trans rfl
                have hcz52_6 : wr.cell? ⟨gb150, 6, none⟩ = some (.int .i32 a0_6) := (blk_cell BK150.out 6).trans rfl
                have hcz52_7 : wr.cell? ⟨gb150, 7, none⟩ = some (.slice A0_7 l0_7.length c0_7) := (blk_cell BK150.out 7).trans rfl
                have hfz52_0 := blk_frozen BK150.out 0
                have hfz52_1 := blk_frozen BK150.out 1
                have hfz52_2 := blk_frozen BK150.out 2
                have hfz52_3 := blk_frozen BK150.out 3
                have hfz52_4 := blk_frozen BK150.out 4
                have hfz52_5 := blk_frozen BK150.out 5
                have hfz52_6 := blk_frozen BK150.out 6
                have hfz52_7 := blk_frozen BK150.out 7
                go_wp2_with (first | (go_at_call 50; (with_reducible refine (jacquardref18_Fields.calls k4 a0_0 t165 _ A43.out).mono ?_); rintro e w' ⟨rfl, ⟨nd, rfl⟩⟩; (try first | exact ⟨rfl, _, World.drewN_drewN _ _ _⟩ | exact ⟨rfl, _, Eq.trans (World.drewN_drewN _ _ _) (congrArg (World.drewN _) (Nat.add_assoc _ _ _))⟩); have p47 : 0 ≤ ((ji44) : Int) := of_decide_eq_true (by first | (with_reducible assumption) | assumption); have q47 : (ji44) < (t165.size : Int) := of_decide_eq_true (by first | (with_reducible assumption) | assumption); have hx47 := bt_at t165 (ji44); replace p47 := eq_true p47; replace q47 := eq_true q47) | (go_at_call 51; (with_reducible refine (jacquardref18_Of.calls (bt t165 (ji44)) x4_3 t166 t167 t168 _ A48.out).mono ?_); rintro e w53 ⟨rfl, hb⟩; have n0_ := Aside0.mk (Kd.R_below (by (with_reducible repeat (first | apply Kd.R_alloc | apply Kd.R_drewN | apply Kd.R_drew)); exact HO_6.out) hb); have n1_ := Aside0.mk (blk_below (g := gb150) (o := .cells #[.int .i64 a0_0, .int .i64 a0_1, .int .i64 a0_2, .int .i64 a0_3, .int .i64 a0_4, .int .i64 a0_5, .int .i32 a0_6, .slice A0_7 l0_7.length c0_7] 24 (0, 0)) (by (with_reducible repeat (first | refine blk_drewN ?_ _ | refine blk_drew ?_ | refine blk_alloc ?_ _)); exact BK150.out) hb); have n2_ := Aside0.mk (below_step (by repeat (first | (with_reducible first | exact HB.out | apply below_alloc | apply pw_below_drewN | apply below_drew1 | refine below_set ?_ GE150.out) | exact HB.out)) hb); clear HO_6; clear BK150; clear HB; have HO_6 := n0_; have BK150 := n1_; have HB := n2_; clear n0_ n1_ n2_; (try clear hb); (try clear hb2); (try clear hk); (try clear hi)) | ((with_reducible refine gate_dst (N := 12) rfl ?_); refine box_event ?hg (N := 12) ?hd (cs := #[.int .i64 0, .int .i64 0, .int .i64 0]) (t := 70) ?hr ?_; (case hd => rfl); (case hg => rfl); (case hr => first | (go_simp; done) | (go_simp; rfl)); intro gb169 hg w54 hbox hb; have n0_ := Aside0.mk (Kd.R_below (by (with_reducible repeat (first | apply Kd.R_alloc | apply Kd.R_drewN | apply Kd.R_drew)); exact HO_6.out) hb); have n1_ := Aside0.mk (blk_below (g := gb150) (o := .cells #[.int .i64 a0_0, .int .i64 a0_1, .int .i64 a0_2, .int .i64 a0_3, .int .i64 a0_4, .int .i64 a0_5, .int .i32 a0_6, .slice A0_7 l0_7.length c0_7] 24 (0, 0)) (by (with_reducible repeat (first | refine blk_drewN ?_ _ | refine blk_drew ?_ | refine blk_alloc ?_ _)); exact BK150.out) hb); have n2_ := Aside0.mk (below_step (by repeat (first | (with_reducible first | exact HB.out | apply below_alloc | apply pw_below_drewN | apply below_drew1 | refine below_set ?_ GE150.out) | exact HB.out)) hb); have n3_ := Aside0.mk (hbox); have n4_ := Aside0.mk ((by rw [hg]; exact (below_size (by repeat (first | (with_reducible first | exact HB.out | apply below_alloc | apply pw_below_drewN | apply below_drew1 | refine below_set ?_ GE150.out) | exact HB.out))) : w.heap.size ≤ gb169)); have n5_ := Aside0.mk ((by rw [hg]; exact (below_size (by repeat (first | (with_reducible first | exact HB.out | apply below_alloc | apply pw_below_drewN | apply below_drew1 | refine below_set ?_ GE150.out) | exact HB.out))) : w.heap.size ≤ gb169)); have n6_ := Aside0.mk ((by rw [hg]; exact Nat.ne_of_lt (blk_lt (g := gb150) (o := .cells #[.int .i64 a0_0, .int .i64 a0_1, .int .i64 a0_2, .int .i64 a0_3, .int .i64 a0_4, .int .i64 a0_5, .int .i32 a0_6, .slice A0_7 l0_7.length c0_7] 24 (0, 0)) (by (with_reducible repeat (first | refine blk_drewN ?_ _ | refine blk_drew ?_ | refine blk_alloc ?_ _)); exact BK150.out)) : gb150 ≠ gb169)); have n7_ := Aside0.mk ((by rw [hg]; exact Nat.ne_of_gt (blk_lt (g := gb150) (o := .cells #[.int .i64 a0_0, .int .i64 a0_1, .int .i64 a0_2, .int .i64 a0_3, .int .i64 a0_4, .int .i64 a0_5, .int .i32 a0_6, .slice A0_7 l0_7.length c0_7] 24 (0, 0)) (by (with_reducible repeat (first | refine blk_drewN ?_ _ | refine blk_drew ?_ | refine blk_alloc ?_ _)); exact BK150.out)) : gb169 ≠ gb150)); clear HO_6; clear BK150; clear HB; have HO_6 := n0_; have BK150 := n1_; have HB := n2_; have BK169 := n3_; have GW169 := n4_; have GE169 := n5_; have NB150_169 := n6_; have NB169_150 := n7_; clear n0_ n1_ n2_ n3_ n4_ n5_ n6_ n7_; clear hb hbox hg; have hnb55 := NB169_150.out; have hnc55 := NB150_169.out; have hcz56_0 : w54.cell? ⟨gb169, 0, none⟩ = some (.int .i64 0) := (blk_cell BK169.out 0).trans rfl; have hcz56_1 : w54.cell? ⟨gb169, 1, none⟩ = some (.int .i64 0) := (blk_cell BK169.out 1).trans rfl; have hcz56_2 : w54.cell? ⟨gb169, 2, none⟩ = some (.int .i64 0) := (blk_cell BK169.out 2).trans rfl; have hfz56_0 := blk_frozen BK169.out 0; have hfz56_1 := blk_frozen BK169.out 1; have hfz56_2 := blk_frozen BK169.out 2; have hcz57_0 : w54.cell? ⟨gb150, 0, none⟩ = some (.int .i64 a0_0) := (blk_cell BK150.out 0).trans rfl; have hcz57_1 : w54.cell? ⟨gb150, 1, none⟩ = some (.int .i64 a0_1) := (blk_cell BK150.out 1).trans rfl; have hcz57_2 : w54.cell? ⟨gb150, 2, none⟩ = some (.int .i64 a0_2) := (blk_cell BK150.out 2).trans rfl; have hcz57_3 : w54.cell? ⟨gb150, 3, none⟩ = some (.int .i64 a0_3) := (blk_cell BK150.out 3).trans rfl; have hcz57_4 : w54.cell? ⟨gb150, 4, none⟩ = some (.int .i64 a0_4) := (blk_cell BK150.out 4).trans rfl; have hcz57_5 : w54.cell? ⟨gb150, 5, none⟩ = some (.int .i64 a0_5) := (blk_cell BK150.out 5).trans rfl; have hcz57_6 : w54.cell? ⟨gb150, 6, none⟩ = some (.int .i32 a0_6) := (blk_cell BK150.out 6).trans rfl; have hcz57_7 : w54.cell? ⟨gb150, 7, none⟩ = some (.slice A0_7 l0_7.length c0_7) := (blk_cell BK150.out 7).trans rfl; have hfz57_0 := blk_frozen BK150.out 0; have hfz57_1 := blk_frozen BK150.out 1; have hfz57_2 := blk_frozen BK150.out 2; have hfz57_3 := blk_frozen BK150.out 3; have hfz57_4 := blk_frozen BK150.out 4; have hfz57_5 := blk_frozen BK150.out 5; have hfz57_6 := blk_frozen BK150.out 6; have hfz57_7 := blk_frozen BK150.out 7) | (go_at_call 48; (with_reducible refine (jacquardref18_Bytes.calls k4 a0_2 1 t170 _ A50.out).mono ?_); rintro e w58 ⟨rfl, hb⟩; have n0_ := Aside0.mk (Kd.R_below (by (with_reducible repeat (first | apply Kd.R_alloc | apply Kd.R_drewN | apply Kd.R_drew)); exact (Kd.R_mono (Kd.R_far (p := ⟨gb169, 2, none⟩) (Kd.R_far (p := ⟨gb169, 1, none⟩) (Kd.R_far (p := ⟨gb169, 0, none⟩) (Kd.R_types HO_6.out BK169.out (by decide)) (fun _ hk => hk.2) (.int .i64 t166)) (fun _ hk => hk.2) (.int .i64 t167)) (fun _ hk => hk.2) (.int .i64 t168)) (fun _ h_ => h_.1))) hb); have n1_ := Aside0.mk (blk_below (g := gb150) (o := .cells #[.int .i64 a0_0, .int .i64 a0_1, .int .i64 a0_2, .int .i64 a0_3, .int .i64 a0_4, .int .i64 a0_5, .int .i32 a0_6, .slice A0_7 l0_7.length c0_7] 24 (0, 0)) (by (with_reducible repeat (first | refine blk_drewN ?_ _ | refine blk_drew ?_ | refine blk_alloc ?_ _)); refine blk_far ?_ NB150_169.out _; (with_reducible repeat (first | refine blk_drewN ?_ _ | refine blk_drew ?_ | refine blk_alloc ?_ _)); refine blk_far ?_ NB150_169.out _; (with_reducible repeat (first | refine blk_drewN ?_ _ | refine blk_drew ?_ | refine blk_alloc ?_ _)); refine blk_far ?_ NB150_169.out _; (with_reducible repeat (first | refine blk_drewN ?_ _ | refine blk_drew ?_ | refine blk_alloc ?_ _)); exact BK150.out) hb); have n2_ := Aside0.mk (blk_below (g := gb169) (o := .cells #[.int .i64 t166, .int .i64 t167, .int .i64 t168] 70 (0, 0)) (by (with_reducible repeat (first | refine blk_drewN ?_ _ | refine blk_drew ?_ | refine blk_alloc ?_ _)); refine blk_put (cs := #[.int .i64 t166, .int .i64 t167, .int .i64 0]) ?_ 2 _ rfl; (with_reducible repeat (first | refine blk_drewN ?_ _ | refine blk_drew ?_ | refine blk_alloc ?_ _)); refine blk_put (cs := #[.int .i64 t166, .int .i64 0, .int .i64 0]) ?_ 1 _ rfl; (with_reducible repeat (first | refine blk_drewN ?_ _ | refine blk_drew ?_ | refine blk_alloc ?_ _)); refine blk_put (cs := #[.int .i64 0, .int .i64 0, .int .i64 0]) ?_ 0 _ rfl; (with_reducible repeat (first | refine blk_drewN ?_ _ | refine blk_drew ?_ | refine blk_alloc ?_ _)); exact BK169.out) hb); have n3_ := Aside0.mk (below_step (by repeat (first | (with_reducible first | exact HB.out | apply below_alloc | apply pw_below_drewN | apply below_drew1 | refine below_set ?_ GE150.out | refine below_set ?_ GE169.out) | exact HB.out)) hb); clear HO_6; clear BK150; clear BK169; clear HB; have HO_6 := n0_; have BK150 := n1_; have BK169 := n2_; have HB := n3_; clear n0_ n1_ n2_ n3_; (try clear hb); (try clear hb2); (try clear hk); (try clear hi)))
                repeat (go_quiet (first | (go_at_call 50; (with_reducible refine (jacquardref18_Fields.calls k4 a0_0 t165 _ A43.out).mono ?_); rintro e w' ⟨rfl, ⟨nd, rfl⟩⟩; (try first | exact ⟨rfl, _, World.drewN_drewN _ _ _⟩ | exact ⟨rfl, _, Eq.trans (World.drewN_drewN _ _ _) (congrArg (World.drewN _) (Nat.add_assoc _ _ _))⟩); have p47 : 0 ≤ ((ji44) : Int) := of_decide_eq_true (by first | (with_reducible assumption) | assumption); have q47 : (ji44) < (t165.size : Int) := of_decide_eq_true (by first | (with_reducible assumption) | assumption); have hx47 := bt_at t165 (ji44); replace p47 := eq_true p47; replace q47 := eq_true q47) | (go_at_call 51; (with_reducible refine (jacquardref18_Of.calls (bt t165 (ji44)) x4_3 t166 t167 t168 _ A48.out).mono ?_); rintro e w53 ⟨rfl, hb⟩; have n0_ := Aside0.mk (Kd.R_below (by (with_reducible repeat (first | apply Kd.R_alloc | apply Kd.R_drewN | apply Kd.R_drew)); exact HO_6.out) hb); have n1_ := Aside0.mk (blk_below (g := gb150) (o := .cells #[.int .i64 a0_0, .int .i64 a0_1, .int .i64 a0_2, .int .i64 a0_3, .int .i64 a0_4, .int .i64 a0_5, .int .i32 a0_6, .slice A0_7 l0_7.length c0_7] 24 (0, 0)) (by (with_reducible repeat (first | refine blk_drewN ?_ _ | refine blk_drew ?_ | refine blk_alloc ?_ _)); exact BK150.out) hb); have n2_ := Aside0.mk (below_step (by repeat (first | (with_reducible first | exact HB.out | apply below_alloc | apply pw_below_drewN | apply below_drew1 | refine below_set ?_ GE150.out) | exact HB.out)) hb); clear HO_6; clear BK150; clear HB; have HO_6 := n0_; have BK150 := n1_; have HB := n2_; clear n0_ n1_ n2_; (try clear hb); (try clear hb2); (try clear hk); (try clear hi)) | ((with_reducible refine gate_dst (N := 12) rfl ?_); refine box_event ?hg (N := 12) ?hd (cs := #[.int .i64 0, .int .i64 0, .int .i64 0]) (t := 70) ?hr ?_; (case hd => rfl); (case hg => rfl); (case hr => first | (go_simp; done) | (go_simp; rfl)); intro gb169 hg w54 hbox hb; have n0_ := Aside0.mk (Kd.R_below (by (with_reducible repeat (first | apply Kd.R_alloc | apply Kd.R_drewN | apply Kd.R_drew)); exact HO_6.out) hb); have n1_ := Aside0.mk (blk_below (g := gb150) (o := .cells #[.int .i64 a0_0, .int .i64 a0_1, .int .i64 a0_2, .int .i64 a0_3, .int .i64 a0_4, .int .i64 a0_5, .int .i32 a0_6, .slice A0_7 l0_7.length c0_7] 24 (0, 0)) (by (with_reducible repeat (first | refine blk_drewN ?_ _ | refine blk_drew ?_ | refine blk_alloc ?_ _)); exact BK150.out) hb); have n2_ := Aside0.mk (below_step (by repeat (first | (with_reducible first | exact HB.out | apply below_alloc | apply pw_below_drewN | apply below_drew1 | refine below_set ?_ GE150.out) | exact HB.out)) hb); have n3_ := Aside0.mk (hbox); have n4_ := Aside0.mk ((by rw [hg]; exact (below_size (by repeat (first | (with_reducible first | exact HB.out | apply below_alloc | apply pw_below_drewN | apply below_drew1 | refine below_set ?_ GE150.out) | exact HB.out))) : w.heap.size ≤ gb169)); have n5_ := Aside0.mk ((by rw [hg]; exact (below_size (by repeat (first | (with_reducible first | exact HB.out | apply below_alloc | apply pw_below_drewN | apply below_drew1 | refine below_set ?_ GE150.out) | exact HB.out))) : w.heap.size ≤ gb169)); have n6_ := Aside0.mk ((by rw [hg]; exact Nat.ne_of_lt (blk_lt (g := gb150) (o := .cells #[.int .i64 a0_0, .int .i64 a0_1, .int .i64 a0_2, .int .i64 a0_3, .int .i64 a0_4, .int .i64 a0_5, .int .i32 a0_6, .slice A0_7 l0_7.length c0_7] 24 (0, 0)) (by (with_reducible repeat (first | refine blk_drewN ?_ _ | refine blk_drew ?_ | refine blk_alloc ?_ _)); exact BK150.out)) : gb150 ≠ gb169)); have n7_ := Aside0.mk ((by rw [hg]; exact Nat.ne_of_gt (blk_lt (g := gb150) (o := .cells #[.int .i64 a0_0, .int .i64 a0_1, .int .i64 a0_2, .int .i64 a0_3, .int .i64 a0_4, .int .i64 a0_5, .int .i32 a0_6, .slice A0_7 l0_7.length c0_7] 24 (0, 0)) (by (with_reducible repeat (first | refine blk_drewN ?_ _ | refine blk_drew ?_ | refine blk_alloc ?_ _)); exact BK150.out)) : gb169 ≠ gb150)); clear HO_6; clear BK150; clear HB; have HO_6 := n0_; have BK150 := n1_; have HB := n2_; have BK169 := n3_; have GW169 := n4_; have GE169 := n5_; have NB150_169 := n6_; have NB169_150 := n7_; clear n0_ n1_ n2_ n3_ n4_ n5_ n6_ n7_; clear hb hbox hg; have hnb55 := NB169_150.out; have hnc55 := NB150_169.out; have hcz56_0 : w54.cell? ⟨gb169, 0, none⟩ = some (.int .i64 0) := (blk_cell BK169.out 0).trans rfl; have hcz56_1 : w54.cell? ⟨gb169, 1, none⟩ = some (.int .i64 0) := (blk_cell BK169.out 1).trans rfl; have hcz56_2 : w54.cell? ⟨gb169, 2, none⟩ = some (.int .i64 0) := (blk_cell BK169.out 2).trans rfl; have hfz56_0 := blk_frozen BK169.out 0; have hfz56_1 := blk_frozen BK169.out 1; have hfz56_2 := blk_frozen BK169.out 2; have hcz57_0 : w54.cell? ⟨gb150, 0, none⟩ = some (.int .i64 a0_0) := (blk_cell BK150.out 0).trans rfl; have hcz57_1 : w54.cell? ⟨gb150, 1, none⟩ = some (.int .i64 a0_1) := (blk_cell BK150.out 1).trans rfl; have hcz57_2 : w54.cell? ⟨gb150, 2, none⟩ = some (.int .i64 a0_2) := (blk_cell BK150.out 2).trans rfl; have hcz57_3 : w54.cell? ⟨gb150, 3, none⟩ = some (.int .i64 a0_3) := (blk_cell BK150.out 3).trans rfl; have hcz57_4 : w54.cell? ⟨gb150, 4, none⟩ = some (.int .i64 a0_4) := (blk_cell BK150.out 4).trans rfl; have hcz57_5 : w54.cell? ⟨gb150, 5, none⟩ = some (.int .i64 a0_5) := (blk_cell BK150.out 5).trans rfl; have hcz57_6 : w54.cell? ⟨gb150, 6, none⟩ = some (.int .i32 a0_6) := (blk_cell BK150.out 6).trans rfl; have hcz57_7 : w54.cell? ⟨gb150, 7, none⟩ = some (.slice A0_7 l0_7.length c0_7) := (blk_cell BK150.out 7).trans rfl; have hfz57_0 := blk_frozen BK150.out 0; have hfz57_1 := blk_frozen BK150.out 1; have hfz57_2 := blk_frozen BK150.out 2; have hfz57_3 := blk_frozen BK150.out 3; have hfz57_4 := blk_frozen BK150.out 4; have hfz57_5 := blk_frozen BK150.out 5; have hfz57_6 := blk_frozen BK150.out 6; have hfz57_7 := blk_frozen BK150.out 7) | (go_at_call 48; (with_reducible refine (jacquardref18_Bytes.calls k4 a0_2 1 t170 _ A50.out).mono ?_); rintro e w58 ⟨rfl, hb⟩; have n0_ := Aside0.mk (Kd.R_below (by (with_reducible repeat (first | apply Kd.R_alloc | apply Kd.R_drewN | apply Kd.R_drew)); exact (Kd.R_mono (Kd.R_far (p := ⟨gb169, 2, none⟩) (Kd.R_far (p := ⟨gb169, 1, none⟩) (Kd.R_far (p := ⟨gb169, 0, none⟩) (Kd.R_types HO_6.out BK169.out (by decide)) (fun _ hk => hk.2) (.int .i64 t166)) (fun _ hk => hk.2) (.int .i64 t167)) (fun _ hk => hk.2) (.int .i64 t168)) (fun _ h_ => h_.1))) hb); have n1_ := Aside0.mk (blk_below (g := gb150) (o := .cells #[.int .i64 a0_0, .int .i64 a0_1, .int .i64 a0_2, .int .i64 a0_3, .int .i64 a0_4, .int .i64 a0_5, .int .i32 a0_6, .slice A0_7 l0_7.length c0_7] 24 (0, 0)) (by (with_reducible repeat (first | refine blk_drewN ?_ _ | refine blk_drew ?_ | refine blk_alloc ?_ _)); refine blk_far ?_ NB150_169.out _; (with_reducible repeat (first | refine blk_drewN ?_ _ | refine blk_drew ?_ | refine blk_alloc ?_ _)); refine blk_far ?_ NB150_169.out _; (with_reducible repeat (first | refine blk_drewN ?_ _ | refine blk_drew ?_ | refine blk_alloc ?_ _)); refine blk_far ?_ NB150_169.out _; (with_reducible repeat (first | refine blk_drewN ?_ _ | refine blk_drew ?_ | refine blk_alloc ?_ _)); exact BK150.out) hb); have n2_ := Aside0.mk (blk_below (g := gb169) (o := .cells #[.int .i64 t166, .int .i64 t167, .int .i64 t168] 70 (0, 0)) (by (with_reducible repeat (first | refine blk_drewN ?_ _ | refine blk_drew ?_ | refine blk_alloc ?_ _)); refine blk_put (cs := #[.int .i64 t166, .int .i64 t167, .int .i64 0]) ?_ 2 _ rfl; (with_reducible repeat (first | refine blk_drewN ?_ _ | refine blk_drew ?_ | refine blk_alloc ?_ _)); refine blk_put (cs := #[.int .i64 t166, .int .i64 0, .int .i64 0]) ?_ 1 _ rfl; (with_reducible repeat (first | refine blk_drewN ?_ _ | refine blk_drew ?_ | refine blk_alloc ?_ _)); refine blk_put (cs := #[.int .i64 0, .int .i64 0, .int .i64 0]) ?_ 0 _ rfl; (with_reducible repeat (first | refine blk_drewN ?_ _ | refine blk_drew ?_ | refine blk_alloc ?_ _)); exact BK169.out) hb); have n3_ := Aside0.mk (below_step (by repeat (first | (with_reducible first | exact HB.out | apply below_alloc | apply pw_below_drewN | apply below_drew1 | refine below_set ?_ GE150.out | refine below_set ?_ GE169.out) | exact HB.out)) hb); clear HO_6; clear BK150; clear BK169; clear HB; have HO_6 := n0_; have BK150 := n1_; have BK169 := n2_; have HB := n3_; clear n0_ n1_ n2_ n3_; (try clear hb); (try clear hb2); (try clear hk); (try clear hi))); try go_wp2_with (first | (go_at_call 50; (with_reducible refine (jacquardref18_Fields.calls k4 a0_0 t165 _ A43.out).mono ?_); rintro e w' ⟨rfl, ⟨nd, rfl⟩⟩; (try first | exact ⟨rfl, _, World.drewN_drewN _ _ _⟩ | exact ⟨rfl, _, Eq.trans (World.drewN_drewN _ _ _) (congrArg (World.drewN _) (Nat.add_assoc _ _ _))⟩); have p47 : 0 ≤ ((ji44) : Int) := of_decide_eq_true (by first | (with_reducible assumption) | assumption); have q47 : (ji44) < (t165.size : Int) := of_decide_eq_true (by first | (with_reducible assumption) | assumption); have hx47 := bt_at t165 (ji44); replace p47 := eq_true p47; replace q47 := eq_true q47) | (go_at_call 51; (with_reducible refine (jacquardref18_Of.calls (bt t165 (ji44)) x4_3 t166 t167 t168 _ A48.out).mono ?_); rintro e w53 ⟨rfl, hb⟩; have n0_ := Aside0.mk (Kd.R_below (by (with_reducible repeat (first | apply Kd.R_alloc | apply Kd.R_drewN | apply Kd.R_drew)); exact HO_6.out) hb); have n1_ := Aside0.mk (blk_below (g := gb150) (o := .cells #[.int .i64 a0_0, .int .i64 a0_1, .int .i64 a0_2, .int .i64 a0_3, .int .i64 a0_4, .int .i64 a0_5, .int .i32 a0_6, .slice A0_7 l0_7.length c0_7] 24 (0, 0)) (by (with_reducible repeat (first | refine blk_drewN ?_ _ | refine blk_drew ?_ | refine blk_alloc ?_ _)); exact BK150.out) hb); have n2_ := Aside0.mk (below_step (by repeat (first | (with_reducible first | exact HB.out | apply below_alloc | apply pw_below_drewN | apply below_drew1 | refine below_set ?_ GE150.out) | exact HB.out)) hb); clear HO_6; clear BK150; clear HB; have HO_6 := n0_; have BK150 := n1_; have HB := n2_; clear n0_ n1_ n2_; (try clear hb); (try clear hb2); (try clear hk); (try clear hi)) | ((with_reducible refine gate_dst (N := 12) rfl ?_); refine box_event ?hg (N := 12) ?hd (cs := #[.int .i64 0, .int .i64 0, .int .i64 0]) (t := 70) ?hr ?_; (case hd => rfl); (case hg => rfl); (case hr => first | (go_simp; done) | (go_simp; rfl)); intro gb169 hg w54 hbox hb; have n0_ := Aside0.mk (Kd.R_below (by (with_reducible repeat (first | apply Kd.R_alloc | apply Kd.R_drewN | apply Kd.R_drew)); exact HO_6.out) hb); have n1_ := Aside0.mk (blk_below (g := gb150) (o := .cells #[.int .i64 a0_0, .int .i64 a0_1, .int .i64 a0_2, .int .i64 a0_3, .int .i64 a0_4, .int .i64 a0_5, .int .i32 a0_6, .slice A0_7 l0_7.length c0_7] 24 (0, 0)) (by (with_reducible repeat (first | refine blk_drewN ?_ _ | refine blk_drew ?_ | refine blk_alloc ?_ _)); exact BK150.out) hb); have n2_ := Aside0.mk (below_step (by repeat (first | (with_reducible first | exact HB.out | apply below_alloc | apply pw_below_drewN | apply below_drew1 | refine below_set ?_ GE150.out) | exact HB.out)) hb); have n3_ := Aside0.mk (hbox); have n4_ := Aside0.mk ((by rw [hg]; exact (below_size (by repeat (first | (with_reducible first | exact HB.out | apply below_alloc | apply pw_below_drewN | apply below_drew1 | refine below_set ?_ GE150.out) | exact HB.out))) : w.heap.size ≤ gb169)); have n5_ := Aside0.mk ((by rw [hg]; exact (below_size (by repeat (first | (with_reducible first | exact HB.out | apply below_alloc | apply pw_below_drewN | apply below_drew1 | refine below_set ?_ GE150.out) | exact HB.out))) : w.heap.size ≤ gb169)); have n6_ := Aside0.mk ((by rw [hg]; exact Nat.ne_of_lt (blk_lt (g := gb150) (o := .cells #[.int .i64 a0_0, .int .i64 a0_1, .int .i64 a0_2, .int .i64 a0_3, .int .i64 a0_4, .int .i64 a0_5, .int .i32 a0_6, .slice A0_7 l0_7.length c0_7] 24 (0, 0)) (by (with_reducible repeat (first | refine blk_drewN ?_ _ | refine blk_drew ?_ | refine blk_alloc ?_ _)); exact BK150.out)) : gb150 ≠ gb169)); have n7_ := Aside0.mk ((by rw [hg]; exact Nat.ne_of_gt (blk_lt (g := gb150) (o := .cells #[.int .i64 a0_0, .int .i64 a0_1, .int .i64 a0_2, .int .i64 a0_3, .int .i64 a0_4, .int .i64 a0_5, .int .i32 a0_6, .slice A0_7 l0_7.length c0_7] 24 (0, 0)) (by (with_reducible repeat (first | refine blk_drewN ?_ _ | refine blk_drew ?_ | refine blk_alloc ?_ _)); exact BK150.out)) : gb169 ≠ gb150)); clear HO_6; clear BK150; clear HB; have HO_6 := n0_; have BK150 := n1_; have HB := n2_; have BK169 := n3_; have GW169 := n4_; have GE169 := n5_; have NB150_169 := n6_; have NB169_150 := n7_; clear n0_ n1_ n2_ n3_ n4_ n5_ n6_ n7_; clear hb hbox hg; have hnb55 := NB169_150.out; have hnc55 := NB150_169.out; have hcz56_0 : w54.cell? ⟨gb169, 0, none⟩ = some (.int .i64 0) := (blk_cell BK169.out 0).trans rfl; have hcz56_1 : w54.cell? ⟨gb169, 1, none⟩ = some (.int .i64 0) := (blk_cell BK169.out 1).trans rfl; have hcz56_2 : w54.cell? ⟨gb169, 2, none⟩ = some (.int .i64 0) := (blk_cell BK169.out 2).trans rfl; have hfz56_0 := blk_frozen BK169.out 0; have hfz56_1 := blk_frozen BK169.out 1; have hfz56_2 := blk_frozen BK169.out 2; have hcz57_0 : w54.cell? ⟨gb150, 0, none⟩ = some (.int .i64 a0_0) := (blk_cell BK150.out 0).trans rfl; have hcz57_1 : w54.cell? ⟨gb150, 1, none⟩ = some (.int .i64 a0_1) := (blk_cell BK150.out 1).trans rfl; have hcz57_2 : w54.cell? ⟨gb150, 2, none⟩ = some (.int .i64 a0_2) := (blk_cell BK150.out 2).trans rfl; have hcz57_3 : w54.cell? ⟨gb150, 3, none⟩ = some (.int .i64 a0_3) := (blk_cell BK150.out 3).trans rfl; have hcz57_4 : w54.cell? ⟨gb150, 4, none⟩ = some (.int .i64 a0_4) := (blk_cell BK150.out 4).trans rfl; have hcz57_5 : w54.cell? ⟨gb150, 5, none⟩ = some (.int .i64 a0_5) := (blk_cell BK150.out 5).trans rfl; have hcz57_6 : w54.cell? ⟨gb150, 6, none⟩ = some (.int .i32 a0_6) := (blk_cell BK150.out 6).trans rfl; have hcz57_7 : w54.cell? ⟨gb150, 7, none⟩ = some (.slice A0_7 l0_7.length c0_7) := (blk_cell BK150.out 7).trans rfl; have hfz57_0 := blk_frozen BK150.out 0; have hfz57_1 := blk_frozen BK150.out 1; have hfz57_2 := blk_frozen BK150.out 2; have hfz57_3 := blk_frozen BK150.out 3; have hfz57_4 := blk_frozen BK150.out 4; have hfz57_5 := blk_frozen BK150.out 5; have hfz57_6 := blk_frozen BK150.out 6; have hfz57_7 := blk_frozen BK150.out 7) | (go_at_call 48; (with_reducible refine (jacquardref18_Bytes.calls k4 a0_2 1 t170 _ A50.out).mono ?_); rintro e w58 ⟨rfl, hb⟩; have n0_ := Aside0.mk (Kd.R_below (by (with_reducible repeat (first | apply Kd.R_alloc | apply Kd.R_drewN | apply Kd.R_drew)); exact (Kd.R_mono (Kd.R_far (p := ⟨gb169, 2, none⟩) (Kd.R_far (p := ⟨gb169, 1, none⟩) (Kd.R_far (p := ⟨gb169, 0, none⟩) (Kd.R_types HO_6.out BK169.out (by decide)) (fun _ hk => hk.2) (.int .i64 t166)) (fun _ hk => hk.2) (.int .i64 t167)) (fun _ hk => hk.2) (.int .i64 t168)) (fun _ h_ => h_.1))) hb); have n1_ := Aside0.mk (blk_below (g := gb150) (o := .cells #[.int .i64 a0_0, .int .i64 a0_1, .int .i64 a0_2, .int .i64 a0_3, .int .i64 a0_4, .int .i64 a0_5, .int .i32 a0_6, .slice A0_7 l0_7.length c0_7] 24 (0, 0)) (by (with_reducible repeat (first | refine blk_drewN ?_ _ | refine blk_drew ?_ | refine blk_alloc ?_ _)); refine blk_far ?_ NB150_169.out _; (with_reducible repeat (first | refine blk_drewN ?_ _ | refine blk_drew ?_ | refine blk_alloc ?_ _)); refine blk_far ?_ NB150_169.out _; (with_reducible repeat (first | refine blk_drewN ?_ _ | refine blk_drew ?_ | refine blk_alloc ?_ _)); refine blk_far ?_ NB150_169.out _; (with_reducible repeat (first | refine blk_drewN ?_ _ | refine blk_drew ?_ | refine blk_alloc ?_ _)); exact BK150.out) hb); have n2_ := Aside0.mk (blk_below (g := gb169) (o := .cells #[.int .i64 t166, .int .i64 t167, .int .i64 t168] 70 (0, 0)) (by (with_reducible repeat (first | refine blk_drewN ?_ _ | refine blk_drew ?_ | refine blk_alloc ?_ _)); refine blk_put (cs := #[.int .i64 t166, .int .i64 t167, .int .i64 0]) ?_ 2 _ rfl; (with_reducible repeat (first | refine blk_drewN ?_ _ | refine blk_drew ?_ | refine blk_alloc ?_ _)); refine blk_put (cs := #[.int .i64 t166, .int .i64 0, .int .i64 0]) ?_ 1 _ rfl; (with_reducible repeat (first | refine blk_drewN ?_ _ | refine blk_drew ?_ | refine blk_alloc ?_ _)); refine blk_put (cs := #[.int .i64 0, .int .i64 0, .int .i64 0]) ?_ 0 _ rfl; (with_reducible repeat (first | refine blk_drewN ?_ _ | refine blk_drew ?_ | refine blk_alloc ?_ _)); exact BK169.out) hb); have n3_ := Aside0.mk (below_step (by repeat (first | (with_reducible first | exact HB.out | apply below_alloc | apply pw_below_drewN | apply below_drew1 | refine below_set ?_ GE150.out | refine below_set ?_ GE169.out) | exact HB.out)) hb); clear HO_6; clear BK150; clear BK169; clear HB; have HO_6 := n0_; have BK150 := n1_; have BK169 := n2_; have HB := n3_; clear n0_ n1_ n2_ n3_; (try clear hb); (try clear hb2); (try clear hk); (try clear hi))))
                go_ret2
                exact ⟨by first | rfl | (simp [errW_none, errW_some] <;> rfl) | (simp only [← hji44]; first | rfl | (simp [errW_none, errW_some] <;> rfl)) | (simp [*, errW_none, errW_some] <;> rfl), by repeat (first | (with_reducible first | exact HB.out | apply below_alloc | apply pw_below_drewN | apply below_drew1 | refine below_set ?_ GE150.out | refine below_set ?_ GE169.out) | exact HB.out)⟩
               ·rw [if_neg c51] at H
                exact absurd H (by simp)
              ·rw [if_neg c49] at H
               have c49b0 : ((bt t165 (ji44)) == 101) = false := beq_eq_false_iff_ne.mpr c49
               have c49b1 : ((bt t165 (ji44)) != 101) = true := bne_iff_ne.mpr c49
               by_cases c59 : (bt t165 (ji44)) = 116
               ·rw [if_pos c59] at H
                have c59b0 : ((bt t165 (ji44)) == 116) = true := beq_iff_eq.mpr c59
                have c59b1 : ((bt t165 (ji44)) != 116) = false := bne_eq_false_iff_eq.mpr c59
                clear c59
                replace H := Option.bind_eq_some_iff.mp H
                obtain ⟨t171, A600, H⟩ := H
                replace H : (if x5_4.size + t171.size ≤ 9223372036854775807 then (jacquardref18_Put.l2 k4 (x5_4 ++ t171) 0 a0_0 a0_1 a0_2 a0_3 a0_4 a0_5 a0_6 l0_7 t166 t167 t168) else (none)) = some (r1, r2) := H
                have A60 := Aside0.mk A600
                clear A600
                by_cases c61 : x5_4.size + t171.size ≤ 9223372036854775807
                ·rw [if_pos c61] at H
                 have c61b0 := eq_true c61
                 have c61b1 : decide (x5_4.size + t171.size ≤ 9223372036854775807) = true := decide_eq_true c61
                 try have c61b2 : (9223372036854775807 < x5_4.size + t171.size) = False := eq_false (Nat.not_lt.2 c61)
                 have H' := Aside0.mk H
                 clear H
                 have hcz62_0 : wr.cell? ⟨gb150, 0, none⟩ = some (.int .i64 a0_0) := (blk_cell BK150.out 0).trans rfl
                 have hcz62_1 : wr.cell? ⟨gb150, 1, none⟩ = some (.int .i64 a0_1) := (blk_cell BK150.out 1).trans rfl
                 have hcz62_2 : wr.cell? ⟨gb150, 2, none⟩ = some (.int .i64 a0_2) := (blk_cell BK150.out 2).trans rfl
                 have hcz62_3 : wr.cell? ⟨gb150, 3, none⟩ = some (.int .i64 a0_3) := (blk_cell BK150.out 3).trans rfl
                 have hcz62_4 : wr.cell? ⟨gb150, 4, none⟩ = some (.int .i64 a0_4) := (blk_cell BK150.out 4).trans rfl
                 have hcz62_5 : wr.cell? ⟨gb150, 5, none⟩ = some (.int .i64 a0_5) := (blk_cell BK150.out 5).trans rfl
                 have hcz62_6 : wr.cell? ⟨gb150, 6, none⟩ = some (.int .i32 a0_6) := (blk_cell BK150.out 6).trans rfl
                 have hcz62_7 : wr.cell? ⟨gb150, 7, none⟩ = some (.slice A0_7 l0_7.length c0_7) := (blk_cell BK150.out 7).trans rfl
                 have hfz62_0 := blk_frozen BK150.out 0
                 have hfz62_1 := blk_frozen BK150.out 1
                 have hfz62_2 := blk_frozen BK150.out 2
                 have hfz62_3 := blk_frozen BK150.out 3
                 have hfz62_4 := blk_frozen BK150.out 4
                 have hfz62_5 := blk_frozen BK150.out 5
                 have hfz62_6 := blk_frozen BK150.out 6
                 have hfz62_7 := blk_frozen BK150.out 7
                 go_wp2_with (first | (go_at_call 50; (with_reducible refine (jacquardref18_Fields.calls k4 a0_0 t165 _ A43.out).mono ?_); rintro e w' ⟨rfl, ⟨nd, rfl⟩⟩; (try first | exact ⟨rfl, _, World.drewN_drewN _ _ _⟩ | exact ⟨rfl, _, Eq.trans (World.drewN_drewN _ _ _) (congrArg (World.drewN _) (Nat.add_assoc _ _ _))⟩); have p47 : 0 ≤ ((ji44) : Int) := of_decide_eq_true (by first | (with_reducible assumption) | assumption); have q47 : (ji44) < (t165.size : Int) := of_decide_eq_true (by first | (with_reducible assumption) | assumption); have hx47 := bt_at t165 (ji44); replace p47 := eq_true p47; replace q47 := eq_true q47) | (go_at_call 51; (with_reducible refine (jacquardref18_Of.calls (bt t165 (ji44)) x4_3 t166 t167 t168 _ A48.out).mono ?_); rintro e w63 ⟨rfl, hb⟩; have n0_ := Aside0.mk (Kd.R_below (by (with_reducible repeat (first | apply Kd.R_alloc | apply Kd.R_drewN | apply Kd.R_drew)); exact HO_6.out) hb); have n1_ := Aside0.mk (blk_below (g := gb150) (o := .cells #[.int .i64 a0_0, .int .i64 a0_1, .int .i64 a0_2, .int .i64 a0_3, .int .i64 a0_4, .int .i64 a0_5, .int .i32 a0_6, .slice A0_7 l0_7.length c0_7] 24 (0, 0)) (by (with_reducible repeat (first | refine blk_drewN ?_ _ | refine blk_drew ?_ | refine blk_alloc ?_ _)); exact BK150.out) hb); have n2_ := Aside0.mk (below_step (by repeat (first | (with_reducible first | exact HB.out | apply below_alloc | apply pw_below_drewN | apply below_drew1 | refine below_set ?_ GE150.out) | exact HB.out)) hb); clear HO_6; clear BK150; clear HB; have HO_6 := n0_; have BK150 := n1_; have HB := n2_; clear n0_ n1_ n2_; (try clear hb); (try clear hb2); (try clear hk); (try clear hi)) | ((with_reducible refine gate_dst (N := 12) rfl ?_); refine box_event ?hg (N := 12) ?hd (cs := #[.int .i64 0, .int .i64 0, .int .i64 0]) (t := 70) ?hr ?_; (case hd => rfl); (case hg => rfl); (case hr => first | (go_simp; done) | (go_simp; rfl)); intro gb169 hg w64 hbox hb; have n0_ := Aside0.mk (Kd.R_below (by (with_reducible repeat (first | apply Kd.R_alloc | apply Kd.R_drewN | apply Kd.R_drew)); exact HO_6.out) hb); have n1_ := Aside0.mk (blk_below (g := gb150) (o := .cells #[.int .i64 a0_0, .int .i64 a0_1, .int .i64 a0_2, .int .i64 a0_3, .int .i64 a0_4, .int .i64 a0_5, .int .i32 a0_6, .slice A0_7 l0_7.length c0_7] 24 (0, 0)) (by (with_reducible repeat (first | refine blk_drewN ?_ _ | refine blk_drew ?_ | refine blk_alloc ?_ _)); exact BK150.out) hb); have n2_ := Aside0.mk (below_step (by repeat (first | (with_reducible first | exact HB.out | apply below_alloc | apply pw_below_drewN | apply below_drew1 | refine below_set ?_ GE150.out) | exact HB.out)) hb); have n3_ := Aside0.mk (hbox); have n4_ := Aside0.mk ((by rw [hg]; exact (below_size (by repeat (first | (with_reducible first | exact HB.out | apply below_alloc | apply pw_below_drewN | apply below_drew1 | refine below_set ?_ GE150.out) | exact HB.out))) : w.heap.size ≤ gb169)); have n5_ := Aside0.mk ((by rw [hg]; exact (below_size (by repeat (first | (with_reducible first | exact HB.out | apply below_alloc | apply pw_below_drewN | apply below_drew1 | refine below_set ?_ GE150.out) | exact HB.out))) : w.heap.size ≤ gb169)); have n6_ := Aside0.mk ((by rw [hg]; exact Nat.ne_of_lt (blk_lt (g := gb150) (o := .cells #[.int .i64 a0_0, .int .i64 a0_1, .int .i64 a0_2, .int .i64 a0_3, .int .i64 a0_4, .int .i64 a0_5, .int .i32 a0_6, .slice A0_7 l0_7.length c0_7] 24 (0, 0)) (by (with_reducible repeat (first | refine blk_drewN ?_ _ | refine blk_drew ?_ | refine blk_alloc ?_ _)); exact BK150.out)) : gb150 ≠ gb169)); have n7_ := Aside0.mk ((by rw [hg]; exact Nat.ne_of_gt (blk_lt (g := gb150) (o := .cells #[.int .i64 a0_0, .int .i64 a0_1, .int .i64 a0_2, .int .i64 a0_3, .int .i64 a0_4, .int .i64 a0_5, .int .i32 a0_6, .slice A0_7 l0_7.length c0_7] 24 (0, 0)) (by (with_reducible repeat (first | refine blk_drewN ?_ _ | refine blk_drew ?_ | refine blk_alloc ?_ _)); exact BK150.out)) : gb169 ≠ gb150)); clear HO_6; clear BK150; clear HB; have HO_6 := n0_; have BK150 := n1_; have HB := n2_; have BK169 := n3_; have GW169 := n4_; have GE169 := n5_; have NB150_169 := n6_; have NB169_150 := n7_; clear n0_ n1_ n2_ n3_ n4_ n5_ n6_ n7_; clear hb hbox hg; have hnb65 := NB169_150.out; have hnc65 := NB150_169.out; have hcz66_0 : w64.cell? ⟨gb169, 0, none⟩ = some (.int .i64 0) := (blk_cell BK169.out 0).trans rfl; have hcz66_1 : w64.cell? ⟨gb169, 1, none⟩ = some (.int .i64 0) := (blk_cell BK169.out 1).trans rfl; have hcz66_2 : w64.cell? ⟨gb169, 2, none⟩ = some (.int .i64 0) := (blk_cell BK169.out 2).trans rfl; have hfz66_0 := blk_frozen BK169.out 0; have hfz66_1 := blk_frozen BK169.out 1; have hfz66_2 := blk_frozen BK169.out 2; have hcz67_0 : w64.cell? ⟨gb150, 0, none⟩ = some (.int .i64 a0_0) := (blk_cell BK150.out 0).trans rfl; have hcz67_1 : w64.cell? ⟨gb150, 1, none⟩ = some (.int .i64 a0_1) := (blk_cell BK150.out 1).trans rfl; have hcz67_2 : w64.cell? ⟨gb150, 2, none⟩ = some (.int .i64 a0_2) := (blk_cell BK150.out 2).trans rfl; have hcz67_3 : w64.cell? ⟨gb150, 3, none⟩ = some (.int .i64 a0_3) := (blk_cell BK150.out 3).trans rfl; have hcz67_4 : w64.cell? ⟨gb150, 4, none⟩ = some (.int .i64 a0_4) := (blk_cell BK150.out 4).trans rfl; have hcz67_5 : w64.cell? ⟨gb150, 5, none⟩ = some (.int .i64 a0_5) := (blk_cell BK150.out 5).trans rfl; have hcz67_6 : w64.cell? ⟨gb150, 6, none⟩ = some (.int .i32 a0_6) := (blk_cell BK150.out 6).trans rfl; have hcz67_7 : w64.cell? ⟨gb150, 7, none⟩ = some (.slice A0_7 l0_7.length c0_7) := (blk_cell BK150.out 7).trans rfl; have hfz67_0 := blk_frozen BK150.out 0; have hfz67_1 := blk_frozen BK150.out 1; have hfz67_2 := blk_frozen BK150.out 2; have hfz67_3 := blk_frozen BK150.out 3; have hfz67_4 := blk_frozen BK150.out 4; have hfz67_5 := blk_frozen BK150.out 5; have hfz67_6 := blk_frozen BK150.out 6; have hfz67_7 := blk_frozen BK150.out 7) | (go_at_call 48; (with_reducible refine (jacquardref18_Bytes.calls k4 (l0_7.length : Int) 1 t171 _ A60.out).mono ?_); rintro e w68 ⟨rfl, hb⟩; have n0_ := Aside0.mk (Kd.R_below (by (with_reducible repeat (first | apply Kd.R_alloc | apply Kd.R_drewN | apply Kd.R_drew)); exact (Kd.R_mono (Kd.R_far (p := ⟨gb169, 2, none⟩) (Kd.R_far (p := ⟨gb169, 1, none⟩) (Kd.R_far (p := ⟨gb169, 0, none⟩) (Kd.R_types HO_6.out BK169.out (by decide)) (fun _ hk => hk.2) (.int .i64 t166)) (fun _ hk => hk.2) (.int .i64 t167)) (fun _ hk => hk.2) (.int .i64 t168)) (fun _ h_ => h_.1))) hb); have n1_ := Aside0.mk (blk_below (g := gb150) (o := .cells #[.int .i64 a0_0, .int .i64 a0_1, .int .i64 a0_2, .int .i64 a0_3, .int .i64 a0_4, .int .i64 a0_5, .int .i32 a0_6, .slice A0_7 l0_7.length c0_7] 24 (0, 0)) (by (with_reducible repeat (first | refine blk_drewN ?_ _ | refine blk_drew ?_ | refine blk_alloc ?_ _)); refine blk_far ?_ NB150_169.out _; (with_reducible repeat (first | refine blk_drewN ?_ _ | refine blk_drew ?_ | refine blk_alloc ?_ _)); refine blk_far ?_ NB150_169.out _; (with_reducible repeat (first | refine blk_drewN ?_ _ | refine blk_drew ?_ | refine blk_alloc ?_ _)); refine blk_far ?_ NB150_169.out _; (with_reducible repeat (first | refine blk_drewN ?_ _ | refine blk_drew ?_ | refine blk_alloc ?_ _)); exact BK150.out) hb); have n2_ := Aside0.mk (blk_below (g := gb169) (o := .cells #[.int .i64 t166, .int .i64 t167, .int .i64 t168] 70 (0, 0)) (by (with_reducible repeat (first | refine blk_drewN ?_ _ | refine blk_drew ?_ | refine blk_alloc ?_ _)); refine blk_put (cs := #[.int .i64 t166, .int .i64 t167, .int .i64 0]) ?_ 2 _ rfl; (with_reducible repeat (first | refine blk_drewN ?_ _ | refine blk_drew ?_ | refine blk_alloc ?_ _)); refine blk_put (cs := #[.int .i64 t166, .int .i64 0, .int .i64 0]) ?_ 1 _ rfl; (with_reducible repeat (first | refine blk_drewN ?_ _ | refine blk_drew ?_ | refine blk_alloc ?_ _)); refine blk_put (cs := #[.int .i64 0, .int .i64 0, .int .i64 0]) ?_ 0 _ rfl; (with_reducible repeat (first | refine blk_drewN ?_ _ | refine blk_drew ?_ | refine blk_alloc ?_ _)); exact BK169.out) hb); have n3_ := Aside0.mk (below_step (by repeat (first | (with_reducible first | exact HB.out | apply below_alloc | apply pw_below_drewN | apply below_drew1 | refine below_set ?_ GE150.out | refine below_set ?_ GE169.out) | exact HB.out)) hb); clear HO_6; clear BK150; clear BK169; clear HB; have HO_6 := n0_; have BK150 := n1_; have BK169 := n2_; have HB := n3_; clear n0_ n1_ n2_ n3_; (try clear hb); (try clear hb2); (try clear hk); (try clear hi)))
                 repeat (go_quiet (first | (go_at_call 50; (with_reducible refine (jacquardref18_Fields.calls k4 a0_0 t165 _ A43.out).mono ?_); rintro e w' ⟨rfl, ⟨nd, rfl⟩⟩; (try first | exact ⟨rfl, _, World.drewN_drewN _ _ _⟩ | exact ⟨rfl, _, Eq.trans (World.drewN_drewN _ _ _) (congrArg (World.drewN _) (Nat.add_assoc _ _ _))⟩); have p47 : 0 ≤ ((ji44) : Int) := of_decide_eq_true (by first | (with_reducible assumption) | assumption); have q47 : (ji44) < (t165.size : Int) := of_decide_eq_true (by first | (with_reducible assumption) | assumption); have hx47 := bt_at t165 (ji44); replace p47 := eq_true p47; replace q47 := eq_true q47) | (go_at_call 51; (with_reducible refine (jacquardref18_Of.calls (bt t165 (ji44)) x4_3 t166 t167 t168 _ A48.out).mono ?_); rintro e w63 ⟨rfl, hb⟩; have n0_ := Aside0.mk (Kd.R_below (by (with_reducible repeat (first | apply Kd.R_alloc | apply Kd.R_drewN | apply Kd.R_drew)); exact HO_6.out) hb); have n1_ := Aside0.mk (blk_below (g := gb150) (o := .cells #[.int .i64 a0_0, .int .i64 a0_1, .int .i64 a0_2, .int .i64 a0_3, .int .i64 a0_4, .int .i64 a0_5, .int .i32 a0_6, .slice A0_7 l0_7.length c0_7] 24 (0, 0)) (by (with_reducible repeat (first | refine blk_drewN ?_ _ | refine blk_drew ?_ | refine blk_alloc ?_ _)); exact BK150.out) hb); have n2_ := Aside0.mk (below_step (by repeat (first | (with_reducible first | exact HB.out | apply below_alloc | apply pw_below_drewN | apply below_drew1 | refine below_set ?_ GE150.out) | exact HB.out)) hb); clear HO_6; clear BK150; clear HB; have HO_6 := n0_; have BK150 := n1_; have HB := n2_; clear n0_ n1_ n2_; (try clear hb); (try clear hb2); (try clear hk); (try clear hi)) | ((with_reducible refine gate_dst (N := 12) rfl ?_); refine box_event ?hg (N := 12) ?hd (cs := #[.int .i64 0, .int .i64 0, .int .i64 0]) (t := 70) ?hr ?_; (case hd => rfl); (case hg => rfl); (case hr => first | (go_simp; done) | (go_simp; rfl)); intro gb169 hg w64 hbox hb; have n0_ := Aside0.mk (Kd.R_below (by (with_reducible repeat (first | apply Kd.R_alloc | apply Kd.R_drewN | apply Kd.R_drew)); exact HO_6.out) hb); have n1_ := Aside0.mk (blk_below (g := gb150) (o := .cells #[.int .i64 a0_0, .int .i64 a0_1, .int .i64 a0_2, .int .i64 a0_3, .int .i64 a0_4, .int .i64 a0_5, .int .i32 a0_6, .slice A0_7 l0_7.length c0_7] 24 (0, 0)) (by (with_reducible repeat (first | refine blk_drewN ?_ _ | refine blk_drew ?_ | refine blk_alloc ?_ _)); exact BK150.out) hb); have n2_ := Aside0.mk (below_step (by repeat (first | (with_reducible first | exact HB.out | apply below_alloc | apply pw_below_drewN | apply below_drew1 | refine below_set ?_ GE150.out) | exact HB.out)) hb); have n3_ := Aside0.mk (hbox); have n4_ := Aside0.mk ((by rw [hg]; exact (below_size (by repeat (first | (with_reducible first | exact HB.out | apply below_alloc | apply pw_below_drewN | apply below_drew1 | refine below_set ?_ GE150.out) | exact HB.out))) : w.heap.size ≤ gb169)); have n5_ := Aside0.mk ((by rw [hg]; exact (below_size (by repeat (first | (with_reducible first | exact HB.out | apply below_alloc | apply pw_below_drewN | apply below_drew1 | refine below_set ?_ GE150.out) | exact HB.out))) : w.heap.size ≤ gb169)); have n6_ := Aside0.mk ((by rw [hg]; exact Nat.ne_of_lt (blk_lt (g := gb150) (o := .cells #[.int .i64 a0_0, .int .i64 a0_1, .int .i64 a0_2, .int .i64 a0_3, .int .i64 a0_4, .int .i64 a0_5, .int .i32 a0_6, .slice A0_7 l0_7.length c0_7] 24 (0, 0)) (by (with_reducible repeat (first | refine blk_drewN ?_ _ | refine blk_drew ?_ | refine blk_alloc ?_ _)); exact BK150.out)) : gb150 ≠ gb169)); have n7_ := Aside0.mk ((by rw [hg]; exact Nat.ne_of_gt (blk_lt (g := gb150) (o := .cells #[.int .i64 a0_0, .int .i64 a0_1, .int .i64 a0_2, .int .i64 a0_3, .int .i64 a0_4, .int .i64 a0_5, .int .i32 a0_6, .slice A0_7 l0_7.length c0_7] 24 (0, 0)) (by (with_reducible repeat (first | refine blk_drewN ?_ _ | refine blk_drew ?_ | refine blk_alloc ?_ _)); exact BK150.out)) : gb169 ≠ gb150)); clear HO_6; clear BK150; clear HB; have HO_6 := n0_; have BK150 := n1_; have HB := n2_; have BK169 := n3_; have GW169 := n4_; have GE169 := n5_; have NB150_169 := n6_; have NB169_150 := n7_; clear n0_ n1_ n2_ n3_ n4_ n5_ n6_ n7_; clear hb hbox hg; have hnb65 := NB169_150.out; have hnc65 := NB150_169.out; have hcz66_0 : w64.cell? ⟨gb169, 0, none⟩ = some (.int .i64 0) := (blk_cell BK169.out 0).trans rfl; have hcz66_1 : w64.cell? ⟨gb169, 1, none⟩ = some (.int .i64 0) := (blk_cell BK169.out 1).trans rfl; have hcz66_2 : w64.cell? ⟨gb169, 2, none⟩ = some (.int .i64 0) := (blk_cell BK169.out 2).trans rfl; have hfz66_0 := blk_frozen BK169.out 0; have hfz66_1 := blk_frozen BK169.out 1; have hfz66_2 := blk_frozen BK169.out 2; have hcz67_0 : w64.cell? ⟨gb150, 0, none⟩ = some (.int .i64 a0_0) := (blk_cell BK150.out 0).trans rfl; have hcz67_1 : w64.cell? ⟨gb150, 1, none⟩ = some (.int .i64 a0_1) := (blk_cell BK150.out 1).trans rfl; have hcz67_2 : w64.cell? ⟨gb150, 2, none⟩ = some (.int .i64 a0_2) := (blk_cell BK150.out 2).trans rfl; have hcz67_3 : w64.cell? ⟨gb150, 3, none⟩ = some (.int .i64 a0_3) := (blk_cell BK150.out 3).trans rfl; have hcz67_4 : w64.cell? ⟨gb150, 4, none⟩ = some (.int .i64 a0_4) := (blk_cell BK150.out 4).trans rfl; have hcz67_5 : w64.cell? ⟨gb150, 5, none⟩ = some (.int .i64 a0_5) := (blk_cell BK150.out 5).trans rfl; have hcz67_6 : w64.cell? ⟨gb150, 6, none⟩ = some (.int .i32 a0_6) := (blk_cell BK150.out 6).trans rfl; have hcz67_7 : w64.cell? ⟨gb150, 7, none⟩ = some (.slice A0_7 l0_7.length c0_7) := (blk_cell BK150.out 7).trans rfl; have hfz67_0 := blk_frozen BK150.out 0; have hfz67_1 := blk_frozen BK150.out 1; have hfz67_2 := blk_frozen BK150.out 2; have hfz67_3 := blk_frozen BK150.out 3; have hfz67_4 := blk_frozen BK150.out 4; have hfz67_5 := blk_frozen BK150.out 5; have hfz67_6 := blk_frozen BK150.out 6; have hfz67_7 := blk_frozen BK150.out 7) | (go_at_call 48; (with_reducible refine (jacquardref18_Bytes.calls k4 (l0_7.length : Int) 1 t171 _ A60.out).mono ?_); rintro e w68 ⟨rfl, hb⟩; have n0_ := Aside0.mk (Kd.R_below (by (with_reducible repeat (first | apply Kd.R_alloc | apply Kd.R_drewN | apply Kd.R_drew)); exact (Kd.R_mono (Kd.R_far (p := ⟨gb169, 2, none⟩) (Kd.R_far (p := ⟨gb169, 1, none⟩) (Kd.R_far (p := ⟨gb169, 0, none⟩) (Kd.R_types HO_6.out BK169.out (by decide)) (fun _ hk => hk.2) (.int .i64 t166)) (fun _ hk => hk.2) (.int .i64 t167)) (fun _ hk => hk.2) (.int .i64 t168)) (fun _ h_ => h_.1))) hb); have n1_ := Aside0.mk (blk_below (g := gb150) (o := .cells #[.int .i64 a0_0, .int .i64 a0_1, .int .i64 a0_2, .int .i64 a0_3, .int .i64 a0_4, .int .i64 a0_5, .int .i32 a0_6, .slice A0_7 l0_7.length c0_7] 24 (0, 0)) (by (with_reducible repeat (first | refine blk_drewN ?_ _ | refine blk_drew ?_ | refine blk_alloc ?_ _)); refine blk_far ?_ NB150_169.out _; (with_reducible repeat (first | refine blk_drewN ?_ _ | refine blk_drew ?_ | refine blk_alloc ?_ _)); refine blk_far ?_ NB150_169.out _; (with_reducible repeat (first | refine blk_drewN ?_ _ | refine blk_drew ?_ | refine blk_alloc ?_ _)); refine blk_far ?_ NB150_169.out _; (with_reducible repeat (first | refine blk_drewN ?_ _ | refine blk_drew ?_ | refine blk_alloc ?_ _)); exact BK150.out) hb); have n2_ := Aside0.mk (blk_below (g := gb169) (o := .cells #[.int .i64 t166, .int .i64 t167, .int .i64 t168] 70 (0, 0)) (by (with_reducible repeat (first | refine blk_drewN ?_ _ | refine blk_drew ?_ | refine blk_alloc ?_ _)); refine blk_put (cs := #[.int .i64 t166, .int .i64 t167, .int .i64 0]) ?_ 2 _ rfl; (with_reducible repeat (first | refine blk_drewN ?_ _ | refine blk_drew ?_ | refine blk_alloc ?_ _)); refine blk_put (cs := #[.int .i64 t166, .int .i64 0, .int .i64 0]) ?_ 1 _ rfl; (with_reducible repeat (first | refine blk_drewN ?_ _ | refine blk_drew ?_ | refine blk_alloc ?_ _)); refine blk_put (cs := #[.int .i64 0, .int .i64 0, .int .i64 0]) ?_ 0 _ rfl; (with_reducible repeat (first | refine blk_drewN ?_ _ | refine blk_drew ?_ | refine blk_alloc ?_ _)); exact BK169.out) hb); have n3_ := Aside0.mk (below_step (by repeat (first | (with_reducible first | exact HB.out | apply below_alloc | apply pw_below_drewN | apply below_drew1 | refine below_set ?_ GE150.out | refine below_set ?_ GE169.out) | exact HB.out)) hb); clear HO_6; clear BK150; clear BK169; clear HB; have HO_6 := n0_; have BK150 := n1_; have BK169 := n2_; have HB := n3_; clear n0_ n1_ n2_ n3_; (try clear hb); (try clear hb2); (try clear hk); (try clear hi))); try go_wp2_with (first | (go_at_call 50; (with_reducible refine (jacquardref18_Fields.calls k4 a0_0 t165 _ A43.out).mono ?_); rintro e w' ⟨rfl, ⟨nd, rfl⟩⟩; (try first | exact ⟨rfl, _, World.drewN_drewN _ _ _⟩ | exact ⟨rfl, _, Eq.trans (World.drewN_drewN _ _ _) (congrArg (World.drewN _) (Nat.add_assoc _ _ _))⟩); have p47 : 0 ≤ ((ji44) : Int) := of_decide_eq_true (by first | (with_reducible assumption) | assumption); have q47 : (ji44) < (t165.size : Int) := of_decide_eq_true (by first | (with_reducible assumption) | assumption); have hx47 := bt_at t165 (ji44); replace p47 := eq_true p47; replace q47 := eq_true q47) | (go_at_call 51; (with_reducible refine (jacquardref18_Of.calls (bt t165 (ji44)) x4_3 t166 t167 t168 _ A48.out).mono ?_); rintro e w63 ⟨rfl, hb⟩; have n0_ := Aside0.mk (Kd.R_below (by (with_reducible repeat (first | apply Kd.R_alloc | apply Kd.R_drewN | apply Kd.R_drew)); exact HO_6.out) hb); have n1_ := Aside0.mk (blk_below (g := gb150) (o := .cells #[.int .i64 a0_0, .int .i64 a0_1, .int .i64 a0_2, .int .i64 a0_3, .int .i64 a0_4, .int .i64 a0_5, .int .i32 a0_6, .slice A0_7 l0_7.length c0_7] 24 (0, 0)) (by (with_reducible repeat (first | refine blk_drewN ?_ _ | refine blk_drew ?_ | refine blk_alloc ?_ _)); exact BK150.out) hb); have n2_ := Aside0.mk (below_step (by repeat (first | (with_reducible first | exact HB.out | apply below_alloc | apply pw_below_drewN | apply below_drew1 | refine below_set ?_ GE150.out) | exact HB.out)) hb); clear HO_6; clear BK150; clear HB; have HO_6 := n0_; have BK150 := n1_; have HB := n2_; clear n0_ n1_ n2_; (try clear hb); (try clear hb2); (try clear hk); (try clear hi)) | ((with_reducible refine gate_dst (N := 12) rfl ?_); refine box_event ?hg (N := 12) ?hd (cs := #[.int .i64 0, .int .i64 0, .int .i64 0]) (t := 70) ?hr ?_; (case hd => rfl); (case hg => rfl); (case hr => first | (go_simp; done) | (go_simp; rfl)); intro gb169 hg w64 hbox hb; have n0_ := Aside0.mk (Kd.R_below (by (with_reducible repeat (first | apply Kd.R_alloc | apply Kd.R_drewN | apply Kd.R_drew)); exact HO_6.out) hb); have n1_ := Aside0.mk (blk_below (g := gb150) (o := .cells #[.int .i64 a0_0, .int .i64 a0_1, .int .i64 a0_2, .int .i64 a0_3, .int .i64 a0_4, .int .i64 a0_5, .int .i32 a0_6, .slice A0_7 l0_7.length c0_7] 24 (0, 0)) (by (with_reducible repeat (first | refine blk_drewN ?_ _ | refine blk_drew ?_ | refine blk_alloc ?_ _)); exact BK150.out) hb); have n2_ := Aside0.mk (below_step (by repeat (first | (with_reducible first | exact HB.out | apply below_alloc | apply pw_below_drewN | apply below_drew1 | refine below_set ?_ GE150.out) | exact HB.out)) hb); have n3_ := Aside0.mk (hbox); have n4_ := Aside0.mk ((by rw [hg]; exact (below_size (by repeat (first | (with_reducible first | exact HB.out | apply below_alloc | apply pw_below_drewN | apply below_drew1 | refine below_set ?_ GE150.out) | exact HB.out))) : w.heap.size ≤ gb169)); have n5_ := Aside0.mk ((by rw [hg]; exact (below_size (by repeat (first | (with_reducible first | exact HB.out | apply below_alloc | apply pw_below_drewN | apply below_drew1 | refine below_set ?_ GE150.out) | exact HB.out))) : w.heap.size ≤ gb169)); have n6_ := Aside0.mk ((by rw [hg]; exact Nat.ne_of_lt (blk_lt (g := gb150) (o := .cells #[.int .i64 a0_0, .int .i64 a0_1, .int .i64 a0_2, .int .i64 a0_3, .int .i64 a0_4, .int .i64 a0_5, .int .i32 a0_6, .slice A0_7 l0_7.length c0_7] 24 (0, 0)) (by (with_reducible repeat (first | refine blk_drewN ?_ _ | refine blk_drew ?_ | refine blk_alloc ?_ _)); exact BK150.out)) : gb150 ≠ gb169)); have n7_ := Aside0.mk ((by rw [hg]; exact Nat.ne_of_gt (blk_lt (g := gb150) (o := .cells #[.int .i64 a0_0, .int .i64 a0_1, .int .i64 a0_2, .int .i64 a0_3, .int .i64 a0_4, .int .i64 a0_5, .int .i32 a0_6, .slice A0_7 l0_7.length c0_7] 24 (0, 0)) (by (with_reducible repeat (first | refine blk_drewN ?_ _ | refine blk_drew ?_ | refine blk_alloc ?_ _)); exact BK150.out)) : gb169 ≠ gb150)); clear HO_6; clear BK150; clear HB; have HO_6 := n0_; have BK150 := n1_; have HB := n2_; have BK169 := n3_; have GW169 := n4_; have GE169 := n5_; have NB150_169 := n6_; have NB169_150 := n7_; clear n0_ n1_ n2_ n3_ n4_ n5_ n6_ n7_; clear hb hbox hg; have hnb65 := NB169_150.out; have hnc65 := NB150_169.out; have hcz66_0 : w64.cell? ⟨gb169, 0, none⟩ = some (.int .i64 0) := (blk_cell BK169.out 0).trans rfl; have hcz66_1 : w64.cell? ⟨gb169, 1, none⟩ = some (.int .i64 0) := (blk_cell BK169.out 1).trans rfl; have hcz66_2 : w64.cell? ⟨gb169, 2, none⟩ = some (.int .i64 0) := (blk_cell BK169.out 2).trans rfl; have hfz66_0 := blk_frozen BK169.out 0; have hfz66_1 := blk_frozen BK169.out 1; have hfz66_2 := blk_frozen BK169.out 2; have hcz67_0 : w64.cell? ⟨gb150, 0, none⟩ = some (.int .i64 a0_0) := (blk_cell BK150.out 0).trans rfl; have hcz67_1 : w64.cell? ⟨gb150, 1, none⟩ = some (.int .i64 a0_1) := (blk_cell BK150.out 1).trans rfl; have hcz67_2 : w64.cell? ⟨gb150, 2, none⟩ = some (.int .i64 a0_2) := (blk_cell BK150.out 2).trans rfl; have hcz67_3 : w64.cell? ⟨gb150, 3, none⟩ = some (.int .i64 a0_3) := (blk_cell BK150.out 3).trans rfl; have hcz67_4 : w64.cell? ⟨gb150, 4, none⟩ = some (.int .i64 a0_4) := (blk_cell BK150.out 4).trans rfl; have hcz67_5 : w64.cell? ⟨gb150, 5, none⟩ = some (.int .i64 a0_5) := (blk_cell BK150.out 5).trans rfl; have hcz67_6 : w64.cell? ⟨gb150, 6, none⟩ = some (.int .i32 a0_6) := (blk_cell BK150.out 6).trans rfl; have hcz67_7 : w64.cell? ⟨gb150, 7, none⟩ = some (.slice A0_7 l0_7.length c0_7) := (blk_cell BK150.out 7).trans rfl; have hfz67_0 := blk_frozen BK150.out 0; have hfz67_1 := blk_frozen BK150.out 1; have hfz67_2 := blk_frozen BK150.out 2; have hfz67_3 := blk_frozen BK150.out 3; have hfz67_4 := blk_frozen BK150.out 4; have hfz67_5 := blk_frozen BK150.out 5; have hfz67_6 := blk_frozen BK150.out 6; have hfz67_7 := blk_frozen BK150.out 7) | (go_at_call 48; (with_reducible refine (jacquardref18_Bytes.calls k4 (l0_7.length : Int) 1 t171 _ A60.out).mono ?_); rintro e w68 ⟨rfl, hb⟩; have n0_ := Aside0.mk (Kd.R_below (by (with_reducible repeat (first | apply Kd.R_alloc | apply Kd.R_drewN | apply Kd.R_drew)); exact (Kd.R_mono (Kd.R_far (p := ⟨gb169, 2, none⟩) (Kd.R_far (p := ⟨gb169, 1, none⟩) (Kd.R_far (p := ⟨gb169, 0, none⟩) (Kd.R_types HO_6.out BK169.out (by decide)) (fun _ hk => hk.2) (.int .i64 t166)) (fun _ hk => hk.2) (.int .i64 t167)) (fun _ hk => hk.2) (.int .i64 t168)) (fun _ h_ => h_.1))) hb); have n1_ := Aside0.mk (blk_below (g := gb150) (o := .cells #[.int .i64 a0_0, .int .i64 a0_1, .int .i64 a0_2, .int .i64 a0_3, .int .i64 a0_4, .int .i64 a0_5, .int .i32 a0_6, .slice A0_7 l0_7.length c0_7] 24 (0, 0)) (by (with_reducible repeat (first | refine blk_drewN ?_ _ | refine blk_drew ?_ | refine blk_alloc ?_ _)); refine blk_far ?_ NB150_169.out _; (with_reducible repeat (first | refine blk_drewN ?_ _ | refine blk_drew ?_ | refine blk_alloc ?_ _)); refine blk_far ?_ NB150_169.out _; (with_reducible repeat (first | refine blk_drewN ?_ _ | refine blk_drew ?_ | refine blk_alloc ?_ _)); refine blk_far ?_ NB150_169.out _; (with_reducible repeat (first | refine blk_drewN ?_ _ | refine blk_drew ?_ | refine blk_alloc ?_ _)); exact BK150.out) hb); have n2_ := Aside0.mk (blk_below (g := gb169) (o := .cells #[.int .i64 t166, .int .i64 t167, .int .i64 t168] 70 (0, 0)) (by (with_reducible repeat (first | refine blk_drewN ?_ _ | refine blk_drew ?_ | refine blk_alloc ?_ _)); refine blk_put (cs := #[.int .i64 t166, .int .i64 t167, .int .i64 0]) ?_ 2 _ rfl; (with_reducible repeat (first | refine blk_drewN ?_ _ | refine blk_drew ?_ | refine blk_alloc ?_ _)); refine blk_put (cs := #[.int .i64 t166, .int .i64 0, .int .i64 0]) ?_ 1 _ rfl; (with_reducible repeat (first | refine blk_drewN ?_ _ | refine blk_drew ?_ | refine blk_alloc ?_ _)); refine blk_put (cs := #[.int .i64 0, .int .i64 0, .int .i64 0]) ?_ 0 _ rfl; (with_reducible repeat (first | refine blk_drewN ?_ _ | refine blk_drew ?_ | refine blk_alloc ?_ _)); exact BK169.out) hb); have n3_ := Aside0.mk (below_step (by repeat (first | (with_reducible first | exact HB.out | apply below_alloc | apply pw_below_drewN | apply below_drew1 | refine below_set ?_ GE150.out | refine below_set ?_ GE169.out) | exact HB.out)) hb); clear HO_6; clear BK150; clear BK169; clear HB; have HO_6 := n0_; have BK150 := n1_; have BK169 := n2_; have HB := n3_; clear n0_ n1_ n2_ n3_; (try clear hb); (try clear hb2); (try clear hk); (try clear hi))))
                 go_loopg [5, 13] k4 (fun kq v5 v13 w' => ∃ (x5_5 : ByteArray) (x13_5 : Int), v5 = .string x5_5 ∧ v13 = .int .i64 x13_5 ∧ Aside0 (jacquardref18_Put.l2 kq x5_5 x13_5 a0_0 a0_1 a0_2 a0_3 a0_4 a0_5 a0_6 l0_7 t166 t167 t168 = some (r1, r2)) ∧ Aside0 (kq ≤ k4) ∧ Aside0 (w'.heap[gb150]? = some (.cells #[.int .i64 a0_0, .int .i64 a0_1, .int .i64 a0_2, .int .i64 a0_3, .int .i64 a0_4, .int .i64 a0_5, .int .i32 a0_6, (.slice A0_7 l0_7.length c0_7)] 24 (0, 0))) ∧ Aside0 (w'.heap[gb169]? = some (.cells #[.int .i64 t166, .int .i64 t167, .int .i64 t168] 70 (0, 0))) ∧ Aside0 (Below w.heap.size w w'))
                 case atStart => exact ⟨(x5_4 ++ t171), (0), (by first | rfl | (simp; done) | (simp [*]; done)), (by first | rfl | (simp; done) | (simp [*]; done)), H', ⟨Nat.le_refl _⟩, ⟨by (with_reducible repeat (first | refine blk_drewN ?_ _ | refine blk_drew ?_ | refine blk_alloc ?_ _)); exact BK150.out⟩, ⟨by (with_reducible repeat (first | refine blk_drewN ?_ _ | refine blk_drew ?_ | refine blk_alloc ?_ _)); exact BK169.out⟩, ⟨by repeat (first | (with_reducible first | exact HB.out | apply below_alloc | apply pw_below_drewN | apply below_drew1 | refine below_set ?_ GE150.out | refine below_set ?_ GE169.out) | exact HB.out)⟩⟩
                 case round =>
                  clear H'
                  try clear c1
                  try clear p1
                  try clear q1
                  try clear hx1
                  try clear c2
                  try clear p2
                  try clear c3
                  try clear c4
                  try clear p4
                  try clear q4
                  try clear hx4
                  try clear c5
                  try clear c6
                  try clear p6
                  try clear c9
                  try clear p15
                  try clear q15
                  try clear hx15
                  try clear c16
                  try clear p16
                  try clear q16
                  try clear hx16
                  try clear c18
                  try clear c23
                  try clear c23b0
                  try clear c24
                  try clear c24b0
                  try clear c25
                  try clear c25b0
                  try clear c27
                  try clear c27b0
                  try clear c31
                  try clear c31b0
                  try clear c32
                  try clear c32b0
                  try clear c34
                  try clear c34b0
                  try clear c35
                  try clear c35b0
                  try clear c37
                  try clear c37b0
                  try clear c37b1
                  try clear c37b2
                  try clear c39
                  try clear c39b0
                  try clear c41
                  try clear c41b0
                  try clear c41b1
                  try clear c41b2
                  try clear c45
                  try clear c45b0
                  try clear c46
                  try clear c46b0
                  try clear p47
                  try clear q47
                  try clear hx47
                  try clear c49
                  try clear c49b0
                  try clear c49b1
                  try clear c51
                  try clear c51b0
                  try clear c51b1
                  try clear c51b2
                  try clear c55
                  try clear c59
                  try clear c59b0
                  try clear c59b1
                  try clear c61
                  try clear c61b0
                  try clear c61b1
                  try clear c61b2
                  try clear p64
                  try clear c65
                  try clear hcz10_0
                  try clear hcz10_1
                  try clear hcz10_2
                  try clear hcz10_3
                  try clear hcz10_4
                  try clear hcz10_5
                  try clear hcz10_6
                  try clear hcz10_7
                  try clear hcz11_0
                  try clear hcz11_1
                  try clear hcz11_2
                  try clear hcz11_3
                  try clear hcz11_4
                  try clear hcz11_5
                  try clear hcz11_6
                  try clear hcz11_7
                  try clear hcz14_0
                  try clear hcz14_1
                  try clear hcz14_2
                  try clear hcz14_3
                  try clear hcz14_4
                  try clear hcz14_5
                  try clear hcz14_6
                  try clear hcz14_7
                  try clear hcz18_0
                  try clear hcz18_1
                  try clear hcz18_2
                  try clear hcz18_3
                  try clear hcz18_4
                  try clear hcz18_5
                  try clear hcz18_6
                  try clear hcz18_7
                  try clear hcz21_0
                  try clear hcz21_1
                  try clear hcz21_2
                  try clear hcz21_3
                  try clear hcz21_4
                  try clear hcz21_5
                  try clear hcz21_6
                  try clear hcz21_7
                  try clear hcz52_0
                  try clear hcz52_1
                  try clear hcz52_2
                  try clear hcz52_3
                  try clear hcz52_4
                  try clear hcz52_5
                  try clear hcz52_6
                  try clear hcz52_7
                  try clear hcz56_0
                  try clear hcz56_1
                  try clear hcz56_2
                  try clear hcz57_0
                  try clear hcz57_1
                  try clear hcz57_2
                  try clear hcz57_3
                  try clear hcz57_4
                  try clear hcz57_5
                  try clear hcz57_6
                  try clear hcz57_7
                  try clear hcz62_0
                  try clear hcz62_1
                  try clear hcz62_2
                  try clear hcz62_3
                  try clear hcz62_4
                  try clear hcz62_5
                  try clear hcz62_6
                  try clear hcz62_7
                  try clear hcz66_0
                  try clear hcz66_1
                  try clear hcz66_2
                  try clear hcz67_0
                  try clear hcz67_1
                  try clear hcz67_2
                  try clear hcz67_3
                  try clear hcz67_4
                  try clear hcz67_5
                  try clear hcz67_6
                  try clear hcz67_7
                  try clear hcz6_0
                  try clear hcz6_1
                  try clear hcz6_2
                  try clear hcz6_3
                  try clear hcz6_4
                  try clear hcz6_5
                  try clear hcz6_6
                  try clear hcz6_7
                  try clear hfz10_0
                  try clear hfz10_1
                  try clear hfz10_2
                  try clear hfz10_3
                  try clear hfz10_4
                  try clear hfz10_5
                  try clear hfz10_6
                  try clear hfz10_7
                  try clear hfz11_0
                  try clear hfz11_1
                  try clear hfz11_2
                  try clear hfz11_3
                  try clear hfz11_4
                  try clear hfz11_5
                  try clear hfz11_6
                  try clear hfz11_7
                  try clear hfz14_0
                  try clear hfz14_1
                  try clear hfz14_2
                  try clear hfz14_3
                  try clear hfz14_4
                  try clear hfz14_5
                  try clear hfz14_6
                  try clear hfz14_7
                  try clear hfz18_0
                  try clear hfz18_1
                  try clear hfz18_2
                  try clear hfz18_3
                  try clear hfz18_4
                  try clear hfz18_5
                  try clear hfz18_6
                  try clear hfz18_7
                  try clear hfz21_0
                  try clear hfz21_1
                  try clear hfz21_2
                  try clear hfz21_3
                  try clear hfz21_4
                  try clear hfz21_5
                  try clear hfz21_6
                  try clear hfz21_7
                  try clear hfz52_0
                  try clear hfz52_1
                  try clear hfz52_2
                  try clear hfz52_3
                  try clear hfz52_4
                  try clear hfz52_5
                  try clear hfz52_6
                  try clear hfz52_7
                  try clear hfz56_0
                  try clear hfz56_1
                  try clear hfz56_2
                  try clear hfz57_0
                  try clear hfz57_1
                  try clear hfz57_2
                  try clear hfz57_3
                  try clear hfz57_4
                  try clear hfz57_5
                  try clear hfz57_6
                  try clear hfz57_7
                  try clear hfz62_0
                  try clear hfz62_1
                  try clear hfz62_2
                  try clear hfz62_3
                  try clear hfz62_4
                  try clear hfz62_5
                  try clear hfz62_6
                  try clear hfz62_7
                  try clear hfz66_0
                  try clear hfz66_1
                  try clear hfz66_2
                  try clear hfz67_0
                  try clear hfz67_1
                  try clear hfz67_2
                  try clear hfz67_3
                  try clear hfz67_4
                  try clear hfz67_5
                  try clear hfz67_6
                  try clear hfz67_7
                  try clear hfz6_0
                  try clear hfz6_1
                  try clear hfz6_2
                  try clear hfz6_3
                  try clear hfz6_4
                  try clear hfz6_5
                  try clear hfz6_6
                  try clear hfz6_7
                  try clear hx158_0
                  try clear hx159_0
                  try clear hx160_0
                  try clear hx161_0
                  try clear hx163_0
                  try clear p1
                  try clear p15
                  try clear p158
                  try clear p159
                  try clear p160
                  try clear p161
                  try clear p163
                  try clear p2
                  try clear p47
                  try clear p6
                  try clear q1
                  try clear q15
                  try clear q158
                  try clear q159
                  try clear q160
                  try clear q161
                  try clear q163
                  try clear q47
                  obtain ⟨x5_5, x13_5, rfl, rfl, HA, HK5, BK150, BK169, HB⟩ := hrel
                  cases gk with
                  | zero => exact absurd HA.out (by simp [jacquardref18_Put.l2])
                  | succ k5 =>
                   have H := HA.out
                   clear HA
                   simp only [jacquardref18_Put.l2] at H
                   by_cases c69 : x13_5 < (l0_7.length : Int)
                   ·rw [if_pos c69] at H
                    have c69b0 : decide (x13_5 < (l0_7.length : Int)) = true := decide_eq_true c69
                    clear c69
                    by_cases c70 : 0 ≤ x13_5
                    ·rw [if_pos c70] at H
                     have c70b0 : decide (0 ≤ x13_5) = true := decide_eq_true c70
                     clear c70
                     by_cases c71 : (rd l0_7 x13_5) < t167
                     ·rw [if_pos c71] at H
                      have c71b0 : decide ((rd l0_7 x13_5) < t167) = true := decide_eq_true c71
                      clear c71
                      simp only [Option.some.injEq, Prod.mk.injEq] at H
                      obtain ⟨rfl, rfl⟩ := H
                      have hnb72 := NB150_169.out
                      have hnc72 := NB169_150.out
                      have hcz73_0 : wr.cell? ⟨gb150, 0, none⟩ = some (.int .i64 a0_0) := (blk_cell BK150.out 0).trans rfl
                      have hcz73_1 : wr.cell? ⟨gb150, 1, none⟩ = some (.int .i64 a0_1) := (blk_cell BK150.out 1).trans rfl
                      have hcz73_2 : wr.cell? ⟨gb150, 2, none⟩ = some (.int .i64 a0_2) := (blk_cell BK150.out 2).trans rfl
                      have hcz73_3 : wr.cell? ⟨gb150, 3, none⟩ = some (.int .i64 a0_3) := (blk_cell BK150.out 3).trans rfl
                      have hcz73_4 : wr.cell? ⟨gb150, 4, none⟩ = some (.int .i64 a0_4) := (blk_cell BK150.out 4).trans rfl
                      have hcz73_5 : wr.cell? ⟨gb150, 5, none⟩ = some (.int .i64 a0_5) := (blk_cell BK150.out 5).trans rfl
                      have hcz73_6 : wr.cell? ⟨gb150, 6, none⟩ = some (.int .i32 a0_6) := (blk_cell BK150.out 6).trans rfl
                      have hcz73_7 : wr.cell? ⟨gb150, 7, none⟩ = some (.slice A0_7 l0_7.length c0_7) := (blk_cell BK150.out 7).trans rfl
                      have hfz73_0 := blk_frozen BK150.out 0
                      have hfz73_1 := blk_frozen BK150.out 1
                      have hfz73_2 := blk_frozen BK150.out 2
                      have hfz73_3 := blk_frozen BK150.out 3
                      have hfz73_4 := blk_frozen BK150.out 4
                      have hfz73_5 := blk_frozen BK150.out 5
                      have hfz73_6 := blk_frozen BK150.out 6
                      have hfz73_7 := blk_frozen BK150.out 7
                      have p172 : 0 ≤ (x13_5 : Int) := of_decide_eq_true (by first | (with_reducible assumption) | assumption)
                      have q172 : x13_5 < (l0_7.length : Int) := of_decide_eq_true (by first | (with_reducible assumption) | assumption)
                      obtain ⟨ad172, e172, hx172_0⟩ := Kd.at_int HR0_7.out x13_5 p172 q172
                      cases e172
                      replace hx172_0 := (HB.out.cell (World.block_lt_of_cell? w _ hx172_0)).trans hx172_0
                      replace p172 := eq_true p172
                      replace q172 := eq_true q172
                      have hcz74_0 : wr.cell? ⟨gb169, 0, none⟩ = some (.int .i64 t166) := (blk_cell BK169.out 0).trans rfl
                      have hcz74_1 : wr.cell? ⟨gb169, 1, none⟩ = some (.int .i64 t167) := (blk_cell BK169.out 1).trans rfl
                      have hcz74_2 : wr.cell? ⟨gb169, 2, none⟩ = some (.int .i64 t168) := (blk_cell BK169.out 2).trans rfl
                      have hfz74_0 := blk_frozen BK169.out 0
                      have hfz74_1 := blk_frozen BK169.out 1
                      have hfz74_2 := blk_frozen BK169.out 2
                      go_wp2
                      repeat (go_quiet (fail); try go_wp2)
                      go_ret2
                      exact ⟨by first | rfl | (simp [errW_none, errW_some] <;> rfl) | (simp only [← hji44]; first | rfl | (simp [errW_none, errW_some] <;> rfl)) | (simp [*, errW_none, errW_some] <;> rfl), by repeat (first | (with_reducible first | exact HB.out | apply below_alloc | apply pw_below_drewN | apply below_drew1 | refine below_set ?_ GE150.out | refine below_set ?_ GE169.out) | exact HB.out)⟩
                     ·rw [if_neg c71] at H
                      have c71b0 : decide ((rd l0_7 x13_5) < t167) = false := decide_eq_false c71
                      clear c71
                      by_cases c75 : (rd l0_7 x13_5) > t168
                      ·rw [if_pos c75] at H
                       have c75b0 : decide (t168 < (rd l0_7 x13_5)) = true := decide_eq_true c75
                       clear c75
                       simp only [Option.some.injEq, Prod.mk.injEq] at H
                       obtain ⟨rfl, rfl⟩ := H
                       have hnb76 := NB150_169.out
                       have hnc76 := NB169_150.out
                       have hcz77_0 : wr.cell? ⟨gb150, 0, none⟩ = some (.int .i64 a0_0) := (blk_cell BK150.out 0).trans rfl
                       have hcz77_1 : wr.cell? ⟨gb150, 1, none⟩ = some (.int .i64 a0_1) := (blk_cell BK150.out 1).trans rfl
                       have hcz77_2 : wr.cell? ⟨gb150, 2, none⟩ = some (.int .i64 a0_2) := (blk_cell BK150.out 2).trans rfl
                       have hcz77_3 : wr.cell? ⟨gb150, 3, none⟩ = some (.int .i64 a0_3) := (blk_cell BK150.out 3).trans rfl
                       have hcz77_4 : wr.cell? ⟨gb150, 4, none⟩ = some (.int .i64 a0_4) := (blk_cell BK150.out 4).trans rfl
                       have hcz77_5 : wr.cell? ⟨gb150, 5, none⟩ = some (.int .i64 a0_5) := (blk_cell BK150.out 5).trans rfl
                       have hcz77_6 : wr.cell? ⟨gb150, 6, none⟩ = some (.int .i32 a0_6) := (blk_cell BK150.out 6).trans rfl
                       have hcz77_7 : wr.cell? ⟨gb150, 7, none⟩ = some (.slice A0_7 l0_7.length c0_7) := (blk_cell BK150.out 7).trans rfl
                       have hfz77_0 := blk_frozen BK150.out 0
                       have hfz77_1 := blk_frozen BK150.out 1
                       have hfz77_2 := blk_frozen BK150.out 2
                       have hfz77_3 := blk_frozen BK150.out 3
                       have hfz77_4 := blk_frozen BK150.out 4
                       have hfz77_5 := blk_frozen BK150.out 5
                       have hfz77_6 := blk_frozen BK150.out 6
                       have hfz77_7 := blk_frozen BK150.out 7
                       have p172 : 0 ≤ (x13_5 : Int) := of_decide_eq_true (by first | (with_reducible assumption) | assumption)
                       have q172 : x13_5 < (l0_7.length : Int) := of_decide_eq_true (by first | (with_reducible assumption) | assumption)
                       obtain ⟨ad172, e172, hx172_0⟩ := Kd.at_int HR0_7.out x13_5 p172 q172
                       cases e172
                       replace hx172_0 := (HB.out.cell (World.block_lt_of_cell? w _ hx172_0)).trans hx172_0
                       replace p172 := eq_true p172
                       replace q172 := eq_true q172
                       have hcz78_0 : wr.cell? ⟨gb169, 0, none⟩ = some (.int .i64 t166) := (blk_cell BK169.out 0).trans rfl
                       have hcz78_1 : wr.cell? ⟨gb169, 1, none⟩ = some (.int .i64 t167) := (blk_cell BK169.out 1).trans rfl
                       have hcz78_2 : wr.cell? ⟨gb169, 2, none⟩ = some (.int .i64 t168) := (blk_cell BK169.out 2).trans rfl
                       have hfz78_0 := blk_frozen BK169.out 0
                       have hfz78_1 := blk_frozen BK169.out 1
                       have hfz78_2 := blk_frozen BK169.out 2
                       have p173 : 0 ≤ (x13_5 : Int) := of_decide_eq_true (by first | (with_reducible assumption) | assumption)
                       have q173 : x13_5 < (l0_7.length : Int) := of_decide_eq_true (by first | (with_reducible assumption) | assumption)
                       obtain ⟨ad173, e173, hx173_0⟩ := Kd.at_int HR0_7.out x13_5 p173 q173
                       obtain rfl : ad172 = ad173 := (by injection e173)
                       replace hx173_0 := (HB.out.cell (World.block_lt_of_cell? w _ hx173_0)).trans hx173_0
                       replace p173 := eq_true p173
                       replace q173 := eq_true q173
                       go_wp2
                       repeat (go_quiet (fail); try go_wp2)
                       go_ret2
                       exact ⟨by first | rfl | (simp [errW_none, errW_some] <;> rfl) | (simp only [← hji44]; first | rfl | (simp [errW_none, errW_some] <;> rfl)) | (simp [*, errW_none, errW_some] <;> rfl), by repeat (first | (with_reducible first | exact HB.out | apply below_alloc | apply pw_below_drewN | apply below_drew1 | refine below_set ?_ GE150.out | refine below_set ?_ GE169.out) | exact HB.out)⟩
                      ·rw [if_neg c75] at H
                       have c75b0 : decide (t168 < (rd l0_7 x13_5)) = false := decide_eq_false c75
                       clear c75
                       replace H := Option.bind_eq_some_iff.mp H
                       obtain ⟨t175, A790, H⟩ := H
                       replace H : (if x5_5.size + t175.size ≤ 9223372036854775807 then (jacquardref18_Put.l2 k5 (x5_5 ++ t175) (wrap64 (x13_5 + 1)) a0_0 a0_1 a0_2 a0_3 a0_4 a0_5 a0_6 l0_7 t166 t167 t168) else (none)) = some (r1, r2) := H
                       have A79 := Aside0.mk A790
                       clear A790
                       by_cases c80 : x5_5.size + t175.size ≤ 9223372036854775807
                       ·rw [if_pos c80] at H
                        have c80b0 := eq_true c80
                        have c80b1 : decide (x5_5.size + t175.size ≤ 9223372036854775807) = true := decide_eq_true c80
                        try have c80b2 : (9223372036854775807 < x5_5.size + t175.size) = False := eq_false (Nat.not_lt.2 c80)
                        have H' := Aside0.mk H
                        clear H
                        have hnb81 := NB150_169.out
                        have hnc81 := NB169_150.out
                        have hcz82_0 : wr.cell? ⟨gb150, 0, none⟩ = some (.int .i64 a0_0) := (blk_cell BK150.out 0).trans rfl
                        have hcz82_1 : wr.cell? ⟨gb150, 1, none⟩ = some (.int .i64 a0_1) := (blk_cell BK150.out 1).trans rfl
                        have hcz82_2 : wr.cell? ⟨gb150, 2, none⟩ = some (.int .i64 a0_2) := (blk_cell BK150.out 2).trans rfl
                        have hcz82_3 : wr.cell? ⟨gb150, 3, none⟩ = some (.int .i64 a0_3) := (blk_cell BK150.out 3).trans rfl
                        have hcz82_4 : wr.cell? ⟨gb150, 4, none⟩ = some (.int .i64 a0_4) := (blk_cell BK150.out 4).trans rfl
                        have hcz82_5 : wr.cell? ⟨gb150, 5, none⟩ = some (.int .i64 a0_5) := (blk_cell BK150.out 5).trans rfl
                        have hcz82_6 : wr.cell? ⟨gb150, 6, none⟩ = some (.int .i32 a0_6) := (blk_cell BK150.out 6).trans rfl
                        have hcz82_7 : wr.cell? ⟨gb150, 7, none⟩ = some (.slice A0_7 l0_7.length c0_7) := (blk_cell BK150.out 7).trans rfl
                        have hfz82_0 := blk_frozen BK150.out 0
                        have hfz82_1 := blk_frozen BK150.out 1
                        have hfz82_2 := blk_frozen BK150.out 2
                        have hfz82_3 := blk_frozen BK150.out 3
                        have hfz82_4 := blk_frozen BK150.out 4
                        have hfz82_5 := blk_frozen BK150.out 5
                        have hfz82_6 := blk_frozen BK150.out 6
                        have hfz82_7 := blk_frozen BK150.out 7
                        have p172 : 0 ≤ (x13_5 : Int) := of_decide_eq_true (by first | (with_reducible assumption) | assumption)
                        have q172 : x13_5 < (l0_7.length : Int) := of_decide_eq_true (by first | (with_reducible assumption) | assumption)
                        obtain ⟨ad172, e172, hx172_0⟩ := Kd.at_int HR0_7.out x13_5 p172 q172
                        cases e172
                        replace hx172_0 := (HB.out.cell (World.block_lt_of_cell? w _ hx172_0)).trans hx172_0
                        replace p172 := eq_true p172
                        replace q172 := eq_true q172
                        have hcz83_0 : wr.cell? ⟨gb169, 0, none⟩ = some (.int .i64 t166) := (blk_cell BK169.out 0).trans rfl
                        have hcz83_1 : wr.cell? ⟨gb169, 1, none⟩ = some (.int .i64 t167) := (blk_cell BK169.out 1).trans rfl
                        have hcz83_2 : wr.cell? ⟨gb169, 2, none⟩ = some (.int .i64 t168) := (blk_cell BK169.out 2).trans rfl
                        have hfz83_0 := blk_frozen BK169.out 0
                        have hfz83_1 := blk_frozen BK169.out 1
                        have hfz83_2 := blk_frozen BK169.out 2
                        have p173 : 0 ≤ (x13_5 : Int) := of_decide_eq_true (by first | (with_reducible assumption) | assumption)
                        have q173 : x13_5 < (l0_7.length : Int) := of_decide_eq_true (by first | (with_reducible assumption) | assumption)
                        obtain ⟨ad173, e173, hx173_0⟩ := Kd.at_int HR0_7.out x13_5 p173 q173
                        obtain rfl : ad172 = ad173 := (by injection e173)
                        replace hx173_0 := (HB.out.cell (World.block_lt_of_cell? w _ hx173_0)).trans hx173_0
                        replace p173 := eq_true p173
                        replace q173 := eq_true q173
                        have p174 : 0 ≤ (x13_5 : Int) := of_decide_eq_true (by first | (with_reducible assumption) | assumption)
                        have q174 : x13_5 < (l0_7.length : Int) := of_decide_eq_true (by first | (with_reducible assumption) | assumption)
                        obtain ⟨ad174, e174, hx174_0⟩ := Kd.at_int HR0_7.out x13_5 p174 q174
                        obtain rfl : ad172 = ad174 := (by injection e174)
                        replace hx174_0 := (HB.out.cell (World.block_lt_of_cell? w _ hx174_0)).trans hx174_0
                        replace p174 := eq_true p174
                        replace q174 := eq_true q174
                        go_wp2_with (first | (go_at_call 48; (with_reducible refine (jacquardref18_Bytes.calls k5 (rd l0_7 x13_5) 3 t175 _ A79.out).mono ?_); rintro e w84 ⟨rfl, hb⟩; have n0_ := Aside0.mk (blk_below (g := gb150) (o := .cells #[.int .i64 a0_0, .int .i64 a0_1, .int .i64 a0_2, .int .i64 a0_3, .int .i64 a0_4, .int .i64 a0_5, .int .i32 a0_6, .slice (some ad172) l0_7.length c0_7] 24 (0, 0)) (by (with_reducible repeat (first | refine blk_drewN ?_ _ | refine blk_drew ?_ | refine blk_alloc ?_ _)); exact BK150.out) hb); have n1_ := Aside0.mk (blk_below (g := gb169) (o := .cells #[.int .i64 t166, .int .i64 t167, .int .i64 t168] 70 (0, 0)) (by (with_reducible repeat (first | refine blk_drewN ?_ _ | refine blk_drew ?_ | refine blk_alloc ?_ _)); exact BK169.out) hb); have n2_ := Aside0.mk (below_step (by repeat (first | (with_reducible first | exact HB.out | apply below_alloc | apply pw_below_drewN | apply below_drew1 | refine below_set ?_ GE150.out | refine below_set ?_ GE169.out) | exact HB.out)) hb); clear BK150; clear BK169; clear HB; have BK150 := n0_; have BK169 := n1_; have HB := n2_; clear n0_ n1_ n2_; (try clear hb); (try clear hb2); (try clear hk); (try clear hi)))
                        repeat (go_quiet (first | (go_at_call 48; (with_reducible refine (jacquardref18_Bytes.calls k5 (rd l0_7 x13_5) 3 t175 _ A79.out).mono ?_); rintro e w84 ⟨rfl, hb⟩; have n0_ := Aside0.mk (blk_below (g := gb150) (o := .cells #[.int .i64 a0_0, .int .i64 a0_1, .int .i64 a0_2, .int .i64 a0_3, .int .i64 a0_4, .int .i64 a0_5, .int .i32 a0_6, .slice (some ad172) l0_7.length c0_7] 24 (0, 0)) (by (with_reducible repeat (first | refine blk_drewN ?_ _ | refine blk_drew ?_ | refine blk_alloc ?_ _)); exact BK150.out) hb); have n1_ := Aside0.mk (blk_below (g := gb169) (o := .cells #[.int .i64 t166, .int .i64 t167, .int .i64 t168] 70 (0, 0)) (by (with_reducible repeat (first | refine blk_drewN ?_ _ | refine blk_drew ?_ | refine blk_alloc ?_ _)); exact BK169.out) hb); have n2_ := Aside0.mk (below_step (by repeat (first | (with_reducible first | exact HB.out | apply below_alloc | apply pw_below_drewN | apply below_drew1 | refine below_set ?_ GE150.out | refine below_set ?_ GE169.out) | exact HB.out)) hb); clear BK150; clear BK169; clear HB; have BK150 := n0_; have BK169 := n1_; have HB := n2_; clear n0_ n1_ n2_; (try clear hb); (try clear hb2); (try clear hk); (try clear hi))); try go_wp2_with (first | (go_at_call 48; (with_reducible refine (jacquardref18_Bytes.calls k5 (rd l0_7 x13_5) 3 t175 _ A79.out).mono ?_); rintro e w84 ⟨rfl, hb⟩; have n0_ := Aside0.mk (blk_below (g := gb150) (o := .cells #[.int .i64 a0_0, .int .i64 a0_1, .int .i64 a0_2, .int .i64 a0_3, .int .i64 a0_4, .int .i64 a0_5, .int .i32 a0_6, .slice (some ad172) l0_7.length c0_7] 24 (0, 0)) (by (with_reducible repeat (first | refine blk_drewN ?_ _ | refine blk_drew ?_ | refine blk_alloc ?_ _)); exact BK150.out) hb); have n1_ := Aside0.mk (blk_below (g := gb169) (o := .cells #[.int .i64 t166, .int .i64 t167, .int .i64 t168] 70 (0, 0)) (by (with_reducible repeat (first | refine blk_drewN ?_ _ | refine blk_drew ?_ | refine blk_alloc ?_ _)); exact BK169.out) hb); have n2_ := Aside0.mk (below_step (by repeat (first | (with_reducible first | exact HB.out | apply below_alloc | apply pw_below_drewN | apply below_drew1 | refine below_set ?_ GE150.out | refine below_set ?_ GE169.out) | exact HB.out)) hb); clear BK150; clear BK169; clear HB; have BK150 := n0_; have BK169 := n1_; have HB := n2_; clear n0_ n1_ n2_; (try clear hb); (try clear hb2); (try clear hk); (try clear hi))))
                        go_roundg k5
                        case measure => have := HJ3.out; have := HJ12.out; have := HK3.out; have := HK4.out; have := HK5.out; omega
                        case rel => exact ⟨(x5_5 ++ t175), (wrap64 (x13_5 + 1)), (by first | rfl | (simp; done) | (simp [*]; done)), (by first | rfl | (simp; done) | (simp [*]; done)), H', ⟨by have := HJ3.out; have := HJ12.out; have := HK3.out; have := HK4.out; have := HK5.out; omega⟩, ⟨by (with_reducible repeat (first | refine blk_drewN ?_ _ | refine blk_drew ?_ | refine blk_alloc ?_ _)); exact BK150.out⟩, ⟨by (with_reducible repeat (first | refine blk_drewN ?_ _ | refine blk_drew ?_ | refine blk_alloc ?_ _)); exact BK169.out⟩, ⟨by repeat (first | (with_reducible first | exact HB.out | apply below_alloc | apply pw_below_drewN | apply below_drew1 | refine below_set ?_ GE150.out | refine below_set ?_ GE169.out) | exact HB.out)⟩⟩
                       ·rw [if_neg c80] at H
                        exact absurd H (by simp)
                    ·rw [if_neg c70] at H
                     exact absurd H (by simp)
                   ·rw [if_neg c69] at H
                    have c69b0 : decide (x13_5 < (l0_7.length : Int)) = false := decide_eq_false c69
                    clear c69
                    simp only [Option.some.injEq, Prod.mk.injEq] at H
                    obtain ⟨rfl, rfl⟩ := H
                    have hnb85 := NB150_169.out
                    have hnc85 := NB169_150.out
                    have hcz86_0 : wr.cell? ⟨gb150, 0, none⟩ = some (.int .i64 a0_0) := (blk_cell BK150.out 0).trans rfl
                    have hcz86_1 : wr.cell? ⟨gb150, 1, none⟩ = some (.int .i64 a0_1) := (blk_cell BK150.out 1).trans rfl
                    have hcz86_2 : wr.cell? ⟨gb150, 2, none⟩ = some (.int .i64 a0_2) := (blk_cell BK150.out 2).trans rfl
                    have hcz86_3 : wr.cell? ⟨gb150, 3, none⟩ = some (.int .i64 a0_3) := (blk_cell BK150.out 3).trans rfl
                    have hcz86_4 : wr.cell? ⟨gb150, 4, none⟩ = some (.int .i64 a0_4) := (blk_cell BK150.out 4).trans rfl
                    have hcz86_5 : wr.cell? ⟨gb150, 5, none⟩ = some (.int .i64 a0_5) := (blk_cell BK150.out 5).trans rfl
                    have hcz86_6 : wr.cell? ⟨gb150, 6, none⟩ = some (.int .i32 a0_6) := (blk_cell BK150.out 6).trans rfl
                    have hcz86_7 : wr.cell? ⟨gb150, 7, none⟩ = some (.slice A0_7 l0_7.length c0_7) := (blk_cell BK150.out 7).trans rfl
                    have hfz86_0 := blk_frozen BK150.out 0
                    have hfz86_1 := blk_frozen BK150.out 1
                    have hfz86_2 := blk_frozen BK150.out 2
                    have hfz86_3 := blk_frozen BK150.out 3
                    have hfz86_4 := blk_frozen BK150.out 4
                    have hfz86_5 := blk_frozen BK150.out 5
                    have hfz86_6 := blk_frozen BK150.out 6
                    have hfz86_7 := blk_frozen BK150.out 7
                    go_wp2
                    repeat (go_quiet (fail); try go_wp2)
                    go_ret2
                    exact ⟨by first | rfl | (simp [errW_none, errW_some] <;> rfl) | (simp only [← hji44]; first | rfl | (simp [errW_none, errW_some] <;> rfl)) | (simp [*, errW_none, errW_some] <;> rfl), by repeat (first | (with_reducible first | exact HB.out | apply below_alloc | apply pw_below_drewN | apply below_drew1 | refine below_set ?_ GE150.out | refine below_set ?_ GE169.out) | exact HB.out)⟩
                ·rw [if_neg c61] at H
                 exact absurd H (by simp)
               ·rw [if_neg c59] at H
                have c59b0 : ((bt t165 (ji44)) == 116) = false := beq_eq_false_iff_ne.mpr c59
                have c59b1 : ((bt t165 (ji44)) != 116) = true := bne_iff_ne.mpr c59
                by_cases c87 : t166 = 0
                ·rw [if_pos c87] at H
                 have c87b0 : (t166 == 0) = true := beq_iff_eq.mpr c87
                 have c87b1 : (t166 != 0) = false := bne_eq_false_iff_eq.mpr c87
                 clear c87
                 simp only [Option.some.injEq, Prod.mk.injEq] at H
                 obtain ⟨rfl, rfl⟩ := H
                 have hcz88_0 : wr.cell? ⟨gb150, 0, none⟩ = some (.int .i64 a0_0) := (blk_cell BK150.out 0).trans rfl
                 have hcz88_1 : wr.cell? ⟨gb150, 1, none⟩ = some (.int .i64 a0_1) := (blk_cell BK150.out 1).trans rfl
                 have hcz88_2 : wr.cell? ⟨gb150, 2, none⟩ = some (.int .i64 a0_2) := (blk_cell BK150.out 2).trans rfl
                 have hcz88_3 : wr.cell? ⟨gb150, 3, none⟩ = some (.int .i64 a0_3) := (blk_cell BK150.out 3).trans rfl
                 have hcz88_4 : wr.cell? ⟨gb150, 4, none⟩ = some (.int .i64 a0_4) := (blk_cell BK150.out 4).trans rfl
                 have hcz88_5 : wr.cell? ⟨gb150, 5, none⟩ = some (.int .i64 a0_5) := (blk_cell BK150.out 5).trans rfl
                 have hcz88_6 : wr.cell? ⟨gb150, 6, none⟩ = some (.int .i32 a0_6) := (blk_cell BK150.out 6).trans rfl
                 have hcz88_7 : wr.cell? ⟨gb150, 7, none⟩ = some (.slice A0_7 l0_7.length c0_7) := (blk_cell BK150.out 7).trans rfl
                 have hfz88_0 := blk_frozen BK150.out 0
                 have hfz88_1 := blk_frozen BK150.out 1
                 have hfz88_2 := blk_frozen BK150.out 2
                 have hfz88_3 := blk_frozen BK150.out 3
                 have hfz88_4 := blk_frozen BK150.out 4
                 have hfz88_5 := blk_frozen BK150.out 5
                 have hfz88_6 := blk_frozen BK150.out 6
                 have hfz88_7 := blk_frozen BK150.out 7
                 go_wp2_with (first | (go_at_call 50; (with_reducible refine (jacquardref18_Fields.calls k4 a0_0 t165 _ A43.out).mono ?_); rintro e w' ⟨rfl, ⟨nd, rfl⟩⟩; (try first | exact ⟨rfl, _, World.drewN_drewN _ _ _⟩ | exact ⟨rfl, _, Eq.trans (World.drewN_drewN _ _ _) (congrArg (World.drewN _) (Nat.add_assoc _ _ _))⟩); have p47 : 0 ≤ ((ji44) : Int) := of_decide_eq_true (by first | (with_reducible assumption) | assumption); have q47 : (ji44) < (t165.size : Int) := of_decide_eq_true (by first | (with_reducible assumption) | assumption); have hx47 := bt_at t165 (ji44); replace p47 := eq_true p47; replace q47 := eq_true q47) | (go_at_call 51; (with_reducible refine (jacquardref18_Of.calls (bt t165 (ji44)) x4_3 t166 t167 t168 _ A48.out).mono ?_); rintro e w89 ⟨rfl, hb⟩; have n0_ := Aside0.mk (Kd.R_below (by (with_reducible repeat (first | apply Kd.R_alloc | apply Kd.R_drewN | apply Kd.R_drew)); exact HO_6.out) hb); have n1_ := Aside0.mk (blk_below (g := gb150) (o := .cells #[.int .i64 a0_0, .int .i64 a0_1, .int .i64 a0_2, .int .i64 a0_3, .int .i64 a0_4, .int .i64 a0_5, .int .i32 a0_6, .slice A0_7 l0_7.length c0_7] 24 (0, 0)) (by (with_reducible repeat (first | refine blk_drewN ?_ _ | refine blk_drew ?_ | refine blk_alloc ?_ _)); exact BK150.out) hb); have n2_ := Aside0.mk (below_step (by repeat (first | (with_reducible first | exact HB.out | apply below_alloc | apply pw_below_drewN | apply below_drew1 | refine below_set ?_ GE150.out) | exact HB.out)) hb); clear HO_6; clear BK150; clear HB; have HO_6 := n0_; have BK150 := n1_; have HB := n2_; clear n0_ n1_ n2_; (try clear hb); (try clear hb2); (try clear hk); (try clear hi)) | ((with_reducible refine gate_dst (N := 12) rfl ?_); refine box_event ?hg (N := 12) ?hd (cs := #[.int .i64 0, .int .i64 0, .int .i64 0]) (t := 70) ?hr ?_; (case hd => rfl); (case hg => rfl); (case hr => first | (go_simp; done) | (go_simp; rfl)); intro gb169 hg w90 hbox hb; have n0_ := Aside0.mk (Kd.R_below (by (with_reducible repeat (first | apply Kd.R_alloc | apply Kd.R_drewN | apply Kd.R_drew)); exact HO_6.out) hb); have n1_ := Aside0.mk (blk_below (g := gb150) (o := .cells #[.int .i64 a0_0, .int .i64 a0_1, .int .i64 a0_2, .int .i64 a0_3, .int .i64 a0_4, .int .i64 a0_5, .int .i32 a0_6, .slice A0_7 l0_7.length c0_7] 24 (0, 0)) (by (with_reducible repeat (first | refine blk_drewN ?_ _ | refine blk_drew ?_ | refine blk_alloc ?_ _)); exact BK150.out) hb); have n2_ := Aside0.mk (below_step (by repeat (first | (with_reducible first | exact HB.out | apply below_alloc | apply pw_below_drewN | apply below_drew1 | refine below_set ?_ GE150.out) | exact HB.out)) hb); have n3_ := Aside0.mk (hbox); have n4_ := Aside0.mk ((by rw [hg]; exact (below_size (by repeat (first | (with_reducible first | exact HB.out | apply below_alloc | apply pw_below_drewN | apply below_drew1 | refine below_set ?_ GE150.out) | exact HB.out))) : w.heap.size ≤ gb169)); have n5_ := Aside0.mk ((by rw [hg]; exact (below_size (by repeat (first | (with_reducible first | exact HB.out | apply below_alloc | apply pw_below_drewN | apply below_drew1 | refine below_set ?_ GE150.out) | exact HB.out))) : w.heap.size ≤ gb169)); have n6_ := Aside0.mk ((by rw [hg]; exact Nat.ne_of_lt (blk_lt (g := gb150) (o := .cells #[.int .i64 a0_0, .int .i64 a0_1, .int .i64 a0_2, .int .i64 a0_3, .int .i64 a0_4, .int .i64 a0_5, .int .i32 a0_6, .slice A0_7 l0_7.length c0_7] 24 (0, 0)) (by (with_reducible repeat (first | refine blk_drewN ?_ _ | refine blk_drew ?_ | refine blk_alloc ?_ _)); exact BK150.out)) : gb150 ≠ gb169)); have n7_ := Aside0.mk ((by rw [hg]; exact Nat.ne_of_gt (blk_lt (g := gb150) (o := .cells #[.int .i64 a0_0, .int .i64 a0_1, .int .i64 a0_2, .int .i64 a0_3, .int .i64 a0_4, .int .i64 a0_5, .int .i32 a0_6, .slice A0_7 l0_7.length c0_7] 24 (0, 0)) (by (with_reducible repeat (first | refine blk_drewN ?_ _ | refine blk_drew ?_ | refine blk_alloc ?_ _)); exact BK150.out)) : gb169 ≠ gb150)); clear HO_6; clear BK150; clear HB; have HO_6 := n0_; have BK150 := n1_; have HB := n2_; have BK169 := n3_; have GW169 := n4_; have GE169 := n5_; have NB150_169 := n6_; have NB169_150 := n7_; clear n0_ n1_ n2_ n3_ n4_ n5_ n6_ n7_; clear hb hbox hg; have hnb91 := NB169_150.out; have hnc91 := NB150_169.out; have hcz92_0 : w90.cell? ⟨gb169, 0, none⟩ = some (.int .i64 0) := (blk_cell BK169.out 0).trans rfl; have hcz92_1 : w90.cell? ⟨gb169, 1, none⟩ = some (.int .i64 0) := (blk_cell BK169.out 1).trans rfl; have hcz92_2 : w90.cell? ⟨gb169, 2, none⟩ = some (.int .i64 0) := (blk_cell BK169.out 2).trans rfl; have hfz92_0 := blk_frozen BK169.out 0; have hfz92_1 := blk_frozen BK169.out 1; have hfz92_2 := blk_frozen BK169.out 2))
                 repeat (go_quiet (first | (go_at_call 50; (with_reducible refine (jacquardref18_Fields.calls k4 a0_0 t165 _ A43.out).mono ?_); rintro e w' ⟨rfl, ⟨nd, rfl⟩⟩; (try first | exact ⟨rfl, _, World.drewN_drewN _ _ _⟩ | exact ⟨rfl, _, Eq.trans (World.drewN_drewN _ _ _) (congrArg (World.drewN _) (Nat.add_assoc _ _ _))⟩); have p47 : 0 ≤ ((ji44) : Int) := of_decide_eq_true (by first | (with_reducible assumption) | assumption); have q47 : (ji44) < (t165.size : Int) := of_decide_eq_true (by first | (with_reducible assumption) | assumption); have hx47 := bt_at t165 (ji44); replace p47 := eq_true p47; replace q47 := eq_true q47) | (go_at_call 51; (with_reducible refine (jacquardref18_Of.calls (bt t165 (ji44)) x4_3 t166 t167 t168 _ A48.out).mono ?_); rintro e w89 ⟨rfl, hb⟩; have n0_ := Aside0.mk (Kd.R_below (by (with_reducible repeat (first | apply Kd.R_alloc | apply Kd.R_drewN | apply Kd.R_drew)); exact HO_6.out) hb); have n1_ := Aside0.mk (blk_below (g := gb150) (o := .cells #[.int .i64 a0_0, .int .i64 a0_1, .int .i64 a0_2, .int .i64 a0_3, .int .i64 a0_4, .int .i64 a0_5, .int .i32 a0_6, .slice A0_7 l0_7.length c0_7] 24 (0, 0)) (by (with_reducible repeat (first | refine blk_drewN ?_ _ | refine blk_drew ?_ | refine blk_alloc ?_ _)); exact BK150.out) hb); have n2_ := Aside0.mk (below_step (by repeat (first | (with_reducible first | exact HB.out | apply below_alloc | apply pw_below_drewN | apply below_drew1 | refine below_set ?_ GE150.out) | exact HB.out)) hb); clear HO_6; clear BK150; clear HB; have HO_6 := n0_; have BK150 := n1_; have HB := n2_; clear n0_ n1_ n2_; (try clear hb); (try clear hb2); (try clear hk); (try clear hi)) | ((with_reducible refine gate_dst (N := 12) rfl ?_); refine box_event ?hg (N := 12) ?hd (cs := #[.int .i64 0, .int .i64 0, .int .i64 0]) (t := 70) ?hr ?_; (case hd => rfl); (case hg => rfl); (case hr => first | (go_simp; done) | (go_simp; rfl)); intro gb169 hg w90 hbox hb; have n0_ := Aside0.mk (Kd.R_below (by (with_reducible repeat (first | apply Kd.R_alloc | apply Kd.R_drewN | apply Kd.R_drew)); exact HO_6.out) hb); have n1_ := Aside0.mk (blk_below (g := gb150) (o := .cells #[.int .i64 a0_0, .int .i64 a0_1, .int .i64 a0_2, .int .i64 a0_3, .int .i64 a0_4, .int .i64 a0_5, .int .i32 a0_6, .slice A0_7 l0_7.length c0_7] 24 (0, 0)) (by (with_reducible repeat (first | refine blk_drewN ?_ _ | refine blk_drew ?_ | refine blk_alloc ?_ _)); exact BK150.out) hb); have n2_ := Aside0.mk (below_step (by repeat (first | (with_reducible first | exact HB.out | apply below_alloc | apply pw_below_drewN | apply below_drew1 | refine below_set ?_ GE150.out) | exact HB.out)) hb); have n3_ := Aside0.mk (hbox); have n4_ := Aside0.mk ((by rw [hg]; exact (below_size (by repeat (first | (with_reducible first | exact HB.out | apply below_alloc | apply pw_below_drewN | apply below_drew1 | refine below_set ?_ GE150.out) | exact HB.out))) : w.heap.size ≤ gb169)); have n5_ := Aside0.mk ((by rw [hg]; exact (below_size (by repeat (first | (with_reducible first | exact HB.out | apply below_alloc | apply pw_below_drewN | apply below_drew1 | refine below_set ?_ GE150.out) | exact HB.out))) : w.heap.size ≤ gb169)); have n6_ := Aside0.mk ((by rw [hg]; exact Nat.ne_of_lt (blk_lt (g := gb150) (o := .cells #[.int .i64 a0_0, .int .i64 a0_1, .int .i64 a0_2, .int .i64 a0_3, .int .i64 a0_4, .int .i64 a0_5, .int .i32 a0_6, .slice A0_7 l0_7.length c0_7] 24 (0, 0)) (by (with_reducible repeat (first | refine blk_drewN ?_ _ | refine blk_drew ?_ | refine blk_alloc ?_ _)); exact BK150.out)) : gb150 ≠ gb169)); have n7_ := Aside0.mk ((by rw [hg]; exact Nat.ne_of_gt (blk_lt (g := gb150) (o := .cells #[.int .i64 a0_0, .int .i64 a0_1, .int .i64 a0_2, .int .i64 a0_3, .int .i64 a0_4, .int .i64 a0_5, .int .i32 a0_6, .slice A0_7 l0_7.length c0_7] 24 (0, 0)) (by (with_reducible repeat (first | refine blk_drewN ?_ _ | refine blk_drew ?_ | refine blk_alloc ?_ _)); exact BK150.out)) : gb169 ≠ gb150)); clear HO_6; clear BK150; clear HB; have HO_6 := n0_; have BK150 := n1_; have HB := n2_; have BK169 := n3_; have GW169 := n4_; have GE169 := n5_; have NB150_169 := n6_; have NB169_150 := n7_; clear n0_ n1_ n2_ n3_ n4_ n5_ n6_ n7_; clear hb hbox hg; have hnb91 := NB169_150.out; have hnc91 := NB150_169.out; have hcz92_0 : w90.cell? ⟨gb169, 0, none⟩ = some (.int .i64 0) := (blk_cell BK169.out 0).trans rfl; have hcz92_1 : w90.cell? ⟨gb169, 1, none⟩ = some (.int .i64 0) := (blk_cell BK169.out 1).trans rfl; have hcz92_2 : w90.cell? ⟨gb169, 2, none⟩ = some (.int .i64 0) := (blk_cell BK169.out 2).trans rfl; have hfz92_0 := blk_frozen BK169.out 0; have hfz92_1 := blk_frozen BK169.out 1; have hfz92_2 := blk_frozen BK169.out 2)); try go_wp2_with (first | (go_at_call 50; (with_reducible refine (jacquardref18_Fields.calls k4 a0_0 t165 _ A43.out).mono ?_); rintro e w' ⟨rfl, ⟨nd, rfl⟩⟩; (try first | exact ⟨rfl, _, World.drewN_drewN _ _ _⟩ | exact ⟨rfl, _, Eq.trans (World.drewN_drewN _ _ _) (congrArg (World.drewN _) (Nat.add_assoc _ _ _))⟩); have p47 : 0 ≤ ((ji44) : Int) := of_decide_eq_true (by first | (with_reducible assumption) | assumption); have q47 : (ji44) < (t165.size : Int) := of_decide_eq_true (by first | (with_reducible assumption) | assumption); have hx47 := bt_at t165 (ji44); replace p47 := eq_true p47; replace q47 := eq_true q47) | (go_at_call 51; (with_reducible refine (jacquardref18_Of.calls (bt t165 (ji44)) x4_3 t166 t167 t168 _ A48.out).mono ?_); rintro e w89 ⟨rfl, hb⟩; have n0_ := Aside0.mk (Kd.R_below (by (with_reducible repeat (first | apply Kd.R_alloc | apply Kd.R_drewN | apply Kd.R_drew)); exact HO_6.out) hb); have n1_ := Aside0.mk (blk_below (g := gb150) (o := .cells #[.int .i64 a0_0, .int .i64 a0_1, .int .i64 a0_2, .int .i64 a0_3, .int .i64 a0_4, .int .i64 a0_5, .int .i32 a0_6, .slice A0_7 l0_7.length c0_7] 24 (0, 0)) (by (with_reducible repeat (first | refine blk_drewN ?_ _ | refine blk_drew ?_ | refine blk_alloc ?_ _)); exact BK150.out) hb); have n2_ := Aside0.mk (below_step (by repeat (first | (with_reducible first | exact HB.out | apply below_alloc | apply pw_below_drewN | apply below_drew1 | refine below_set ?_ GE150.out) | exact HB.out)) hb); clear HO_6; clear BK150; clear HB; have HO_6 := n0_; have BK150 := n1_; have HB := n2_; clear n0_ n1_ n2_; (try clear hb); (try clear hb2); (try clear hk); (try clear hi)) | ((with_reducible refine gate_dst (N := 12) rfl ?_); refine box_event ?hg (N := 12) ?hd (cs := #[.int .i64 0, .int .i64 0, .int .i64 0]) (t := 70) ?hr ?_; (case hd => rfl); (case hg => rfl); (case hr => first | (go_simp; done) | (go_simp; rfl)); intro gb169 hg w90 hbox hb; have n0_ := Aside0.mk (Kd.R_below (by (with_reducible repeat (first | apply Kd.R_alloc | apply Kd.R_drewN | apply Kd.R_drew)); exact HO_6.out) hb); have n1_ := Aside0.mk (blk_below (g := gb150) (o := .cells #[.int .i64 a0_0, .int .i64 a0_1, .int .i64 a0_2, .int .i64 a0_3, .int .i64 a0_4, .int .i64 a0_5, .int .i32 a0_6, .slice A0_7 l0_7.length c0_7] 24 (0, 0)) (by (with_reducible repeat (first | refine blk_drewN ?_ _ | refine blk_drew ?_ | refine blk_alloc ?_ _)); exact BK150.out) hb); have n2_ := Aside0.mk (below_step (by repeat (first | (with_reducible first | exact HB.out | apply below_alloc | apply pw_below_drewN | apply below_drew1 | refine below_set ?_ GE150.out) | exact HB.out)) hb); have n3_ := Aside0.mk (hbox); have n4_ := Aside0.mk ((by rw [hg]; exact (below_size (by repeat (first | (with_reducible first | exact HB.out | apply below_alloc | apply pw_below_drewN | apply below_drew1 | refine below_set ?_ GE150.out) | exact HB.out))) : w.heap.size ≤ gb169)); have n5_ := Aside0.mk ((by rw [hg]; exact (below_size (by repeat (first | (with_reducible first | exact HB.out | apply below_alloc | apply pw_below_drewN | apply below_drew1 | refine below_set ?_ GE150.out) | exact HB.out))) : w.heap.size ≤ gb169)); have n6_ := Aside0.mk ((by rw [hg]; exact Nat.ne_of_lt (blk_lt (g := gb150) (o := .cells #[.int .i64 a0_0, .int .i64 a0_1, .int .i64 a0_2, .int .i64 a0_3, .int .i64 a0_4, .int .i64 a0_5, .int .i32 a0_6, .slice A0_7 l0_7.length c0_7] 24 (0, 0)) (by (with_reducible repeat (first | refine blk_drewN ?_ _ | refine blk_drew ?_ | refine blk_alloc ?_ _)); exact BK150.out)) : gb150 ≠ gb169)); have n7_ := Aside0.mk ((by rw [hg]; exact Nat.ne_of_gt (blk_lt (g := gb150) (o := .cells #[.int .i64 a0_0, .int .i64 a0_1, .int .i64 a0_2, .int .i64 a0_3, .int .i64 a0_4, .int .i64 a0_5, .int .i32 a0_6, .slice A0_7 l0_7.length c0_7] 24 (0, 0)) (by (with_reducible repeat (first | refine blk_drewN ?_ _ | refine blk_drew ?_ | refine blk_alloc ?_ _)); exact BK150.out)) : gb169 ≠ gb150)); clear HO_6; clear BK150; clear HB; have HO_6 := n0_; have BK150 := n1_; have HB := n2_; have BK169 := n3_; have GW169 := n4_; have GE169 := n5_; have NB150_169 := n6_; have NB169_150 := n7_; clear n0_ n1_ n2_ n3_ n4_ n5_ n6_ n7_; clear hb hbox hg; have hnb91 := NB169_150.out; have hnc91 := NB150_169.out; have hcz92_0 : w90.cell? ⟨gb169, 0, none⟩ = some (.int .i64 0) := (blk_cell BK169.out 0).trans rfl; have hcz92_1 : w90.cell? ⟨gb169, 1, none⟩ = some (.int .i64 0) := (blk_cell BK169.out 1).trans rfl; have hcz92_2 : w90.cell? ⟨gb169, 2, none⟩ = some (.int .i64 0) := (blk_cell BK169.out 2).trans rfl; have hfz92_0 := blk_frozen BK169.out 0; have hfz92_1 := blk_frozen BK169.out 1; have hfz92_2 := blk_frozen BK169.out 2)))
                 go_ret2
                 exact ⟨by first | rfl | (simp [errW_none, errW_some] <;> rfl) | (simp only [← hji44]; first | rfl | (simp [errW_none, errW_some] <;> rfl)) | (simp [*, errW_none, errW_some] <;> rfl), by repeat (first | (with_reducible first | exact HB.out | apply below_alloc | apply pw_below_drewN | apply below_drew1 | refine below_set ?_ GE150.out | refine below_set ?_ GE169.out) | exact HB.out)⟩
                ·rw [if_neg c87] at H
                 have c87b0 : (t166 == 0) = false := beq_eq_false_iff_ne.mpr c87
                 have c87b1 : (t166 != 0) = true := bne_iff_ne.mpr c87
                 have HC93 := Aside0.mk H
                 clear H
                 have hcz94_0 : wr.cell? ⟨gb150, 0, none⟩ = some (.int .i64 a0_0) := (blk_cell BK150.out 0).trans rfl
                 have hcz94_1 : wr.cell? ⟨gb150, 1, none⟩ = some (.int .i64 a0_1) := (blk_cell BK150.out 1).trans rfl
                 have hcz94_2 : wr.cell? ⟨gb150, 2, none⟩ = some (.int .i64 a0_2) := (blk_cell BK150.out 2).trans rfl
                 have hcz94_3 : wr.cell? ⟨gb150, 3, none⟩ = some (.int .i64 a0_3) := (blk_cell BK150.out 3).trans rfl
                 have hcz94_4 : wr.cell? ⟨gb150, 4, none⟩ = some (.int .i64 a0_4) := (blk_cell BK150.out 4).trans rfl
                 have hcz94_5 : wr.cell? ⟨gb150, 5, none⟩ = some (.int .i64 a0_5) := (blk_cell BK150.out 5).trans rfl
                 have hcz94_6 : wr.cell? ⟨gb150, 6, none⟩ = some (.int .i32 a0_6) := (blk_cell BK150.out 6).trans rfl
                 have hcz94_7 : wr.cell? ⟨gb150, 7, none⟩ = some (.slice A0_7 l0_7.length c0_7) := (blk_cell BK150.out 7).trans rfl
                 have hfz94_0 := blk_frozen BK150.out 0
                 have hfz94_1 := blk_frozen BK150.out 1
                 have hfz94_2 := blk_frozen BK150.out 2
                 have hfz94_3 := blk_frozen BK150.out 3
                 have hfz94_4 := blk_frozen BK150.out 4
                 have hfz94_5 := blk_frozen BK150.out 5
                 have hfz94_6 := blk_frozen BK150.out 6
                 have hfz94_7 := blk_frozen BK150.out 7
                 go_upto_region 37 with (first | (go_at_call 50; (with_reducible refine (jacquardref18_Fields.calls k4 a0_0 t165 _ A43.out).mono ?_); rintro e w' ⟨rfl, ⟨nd, rfl⟩⟩; (try first | exact ⟨rfl, _, World.drewN_drewN _ _ _⟩ | exact ⟨rfl, _, Eq.trans (World.drewN_drewN _ _ _) (congrArg (World.drewN _) (Nat.add_assoc _ _ _))⟩); have p47 : 0 ≤ ((ji44) : Int) := of_decide_eq_true (by first | (with_reducible assumption) | assumption); have q47 : (ji44) < (t165.size : Int) := of_decide_eq_true (by first | (with_reducible assumption) | assumption); have hx47 := bt_at t165 (ji44); replace p47 := eq_true p47; replace q47 := eq_true q47) | (go_at_call 51; (with_reducible refine (jacquardref18_Of.calls (bt t165 (ji44)) x4_3 t166 t167 t168 _ A48.out).mono ?_); rintro e w95 ⟨rfl, hb⟩; have n0_ := Aside0.mk (Kd.R_below (by (with_reducible repeat (first | apply Kd.R_alloc | apply Kd.R_drewN | apply Kd.R_drew)); exact HO_6.out) hb); have n1_ := Aside0.mk (blk_below (g := gb150) (o := .cells #[.int .i64 a0_0, .int .i64 a0_1, .int .i64 a0_2, .int .i64 a0_3, .int .i64 a0_4, .int .i64 a0_5, .int .i32 a0_6, .slice A0_7 l0_7.length c0_7] 24 (0, 0)) (by (with_reducible repeat (first | refine blk_drewN ?_ _ | refine blk_drew ?_ | refine blk_alloc ?_ _)); exact BK150.out) hb); have n2_ := Aside0.mk (below_step (by repeat (first | (with_reducible first | exact HB.out | apply below_alloc | apply pw_below_drewN | apply below_drew1 | refine below_set ?_ GE150.out) | exact HB.out)) hb); clear HO_6; clear BK150; clear HB; have HO_6 := n0_; have BK150 := n1_; have HB := n2_; clear n0_ n1_ n2_; (try clear hb); (try clear hb2); (try clear hk); (try clear hi)) | ((with_reducible refine gate_dst (N := 12) rfl ?_); refine box_event ?hg (N := 12) ?hd (cs := #[.int .i64 0, .int .i64 0, .int .i64 0]) (t := 70) ?hr ?_; (case hd => rfl); (case hg => rfl); (case hr => first | (go_simp; done) | (go_simp; rfl)); intro gb169 hg w96 hbox hb; have n0_ := Aside0.mk (Kd.R_below (by (with_reducible repeat (first | apply Kd.R_alloc | apply Kd.R_drewN | apply Kd.R_drew)); exact HO_6.out) hb); have n1_ := Aside0.mk (blk_below (g := gb150) (o := .cells #[.int .i64 a0_0, .int .i64 a0_1, .int .i64 a0_2, .int .i64 a0_3, .int .i64 a0_4, .int .i64 a0_5, .int .i32 a0_6, .slice A0_7 l0_7.length c0_7] 24 (0, 0)) (by (with_reducible repeat (first | refine blk_drewN ?_ _ | refine blk_drew ?_ | refine blk_alloc ?_ _)); exact BK150.out) hb); have n2_ := Aside0.mk (below_step (by repeat (first | (with_reducible first | exact HB.out | apply below_alloc | apply pw_below_drewN | apply below_drew1 | refine below_set ?_ GE150.out) | exact HB.out)) hb); have n3_ := Aside0.mk (hbox); have n4_ := Aside0.mk ((by rw [hg]; exact (below_size (by repeat (first | (with_reducible first | exact HB.out | apply below_alloc | apply pw_below_drewN | apply below_drew1 | refine below_set ?_ GE150.out) | exact HB.out))) : w.heap.size ≤ gb169)); have n5_ := Aside0.mk ((by rw [hg]; exact (below_size (by repeat (first | (with_reducible first | exact HB.out | apply below_alloc | apply pw_below_drewN | apply below_drew1 | refine below_set ?_ GE150.out) | exact HB.out))) : w.heap.size ≤ gb169)); have n6_ := Aside0.mk ((by rw [hg]; exact Nat.ne_of_lt (blk_lt (g := gb150) (o := .cells #[.int .i64 a0_0, .int .i64 a0_1, .int .i64 a0_2, .int .i64 a0_3, .int .i64 a0_4, .int .i64 a0_5, .int .i32 a0_6, .slice A0_7 l0_7.length c0_7] 24 (0, 0)) (by (with_reducible repeat (first | refine blk_drewN ?_ _ | refine blk_drew ?_ | refine blk_alloc ?_ _)); exact BK150.out)) : gb150 ≠ gb169)); have n7_ := Aside0.mk ((by rw [hg]; exact Nat.ne_of_gt (blk_lt (g := gb150) (o := .cells #[.int .i64 a0_0, .int .i64 a0_1, .int .i64 a0_2, .int .i64 a0_3, .int .i64 a0_4, .int .i64 a0_5, .int .i32 a0_6, .slice A0_7 l0_7.length c0_7] 24 (0, 0)) (by (with_reducible repeat (first | refine blk_drewN ?_ _ | refine blk_drew ?_ | refine blk_alloc ?_ _)); exact BK150.out)) : gb169 ≠ gb150)); clear HO_6; clear BK150; clear HB; have HO_6 := n0_; have BK150 := n1_; have HB := n2_; have BK169 := n3_; have GW169 := n4_; have GE169 := n5_; have NB150_169 := n6_; have NB169_150 := n7_; clear n0_ n1_ n2_ n3_ n4_ n5_ n6_ n7_; clear hb hbox hg; have hnb97 := NB169_150.out; have hnc97 := NB150_169.out; have hcz98_0 : w96.cell? ⟨gb169, 0, none⟩ = some (.int .i64 0) := (blk_cell BK169.out 0).trans rfl; have hcz98_1 : w96.cell? ⟨gb169, 1, none⟩ = some (.int .i64 0) := (blk_cell BK169.out 1).trans rfl; have hcz98_2 : w96.cell? ⟨gb169, 2, none⟩ = some (.int .i64 0) := (blk_cell BK169.out 2).trans rfl; have hfz98_0 := blk_frozen BK169.out 0; have hfz98_1 := blk_frozen BK169.out 1; have hfz98_2 := blk_frozen BK169.out 2))
                 repeat (go_quiet (first | (go_at_call 50; (with_reducible refine (jacquardref18_Fields.calls k4 a0_0 t165 _ A43.out).mono ?_); rintro e w' ⟨rfl, ⟨nd, rfl⟩⟩; (try first | exact ⟨rfl, _, World.drewN_drewN _ _ _⟩ | exact ⟨rfl, _, Eq.trans (World.drewN_drewN _ _ _) (congrArg (World.drewN _) (Nat.add_assoc _ _ _))⟩); have p47 : 0 ≤ ((ji44) : Int) := of_decide_eq_true (by first | (with_reducible assumption) | assumption); have q47 : (ji44) < (t165.size : Int) := of_decide_eq_true (by first | (with_reducible assumption) | assumption); have hx47 := bt_at t165 (ji44); replace p47 := eq_true p47; replace q47 := eq_true q47) | (go_at_call 51; (with_reducible refine (jacquardref18_Of.calls (bt t165 (ji44)) x4_3 t166 t167 t168 _ A48.out).mono ?_); rintro e w95 ⟨rfl, hb⟩; have n0_ := Aside0.mk (Kd.R_below (by (with_reducible repeat (first | apply Kd.R_alloc | apply Kd.R_drewN | apply Kd.R_drew)); exact HO_6.out) hb); have n1_ := Aside0.mk (blk_below (g := gb150) (o := .cells #[.int .i64 a0_0, .int .i64 a0_1, .int .i64 a0_2, .int .i64 a0_3, .int .i64 a0_4, .int .i64 a0_5, .int .i32 a0_6, .slice A0_7 l0_7.length c0_7] 24 (0, 0)) (by (with_reducible repeat (first | refine blk_drewN ?_ _ | refine blk_drew ?_ | refine blk_alloc ?_ _)); exact BK150.out) hb); have n2_ := Aside0.mk (below_step (by repeat (first | (with_reducible first | exact HB.out | apply below_alloc | apply pw_below_drewN | apply below_drew1 | refine below_set ?_ GE150.out) | exact HB.out)) hb); clear HO_6; clear BK150; clear HB; have HO_6 := n0_; have BK150 := n1_; have HB := n2_; clear n0_ n1_ n2_; (try clear hb); (try clear hb2); (try clear hk); (try clear hi)) | ((with_reducible refine gate_dst (N := 12) rfl ?_); refine box_event ?hg (N := 12) ?hd (cs := #[.int .i64 0, .int .i64 0, .int .i64 0]) (t := 70) ?hr ?_; (case hd => rfl); (case hg => rfl); (case hr => first | (go_simp; done) | (go_simp; rfl)); intro gb169 hg w96 hbox hb; have n0_ := Aside0.mk (Kd.R_below (by (with_reducible repeat (first | apply Kd.R_alloc | apply Kd.R_drewN | apply Kd.R_drew)); exact HO_6.out) hb); have n1_ := Aside0.mk (blk_below (g := gb150) (o := .cells #[.int .i64 a0_0, .int .i64 a0_1, .int .i64 a0_2, .int .i64 a0_3, .int .i64 a0_4, .int .i64 a0_5, .int .i32 a0_6, .slice A0_7 l0_7.length c0_7] 24 (0, 0)) (by (with_reducible repeat (first | refine blk_drewN ?_ _ | refine blk_drew ?_ | refine blk_alloc ?_ _)); exact BK150.out) hb); have n2_ := Aside0.mk (below_step (by repeat (first | (with_reducible first | exact HB.out | apply below_alloc | apply pw_below_drewN | apply below_drew1 | refine below_set ?_ GE150.out) | exact HB.out)) hb); have n3_ := Aside0.mk (hbox); have n4_ := Aside0.mk ((by rw [hg]; exact (below_size (by repeat (first | (with_reducible first | exact HB.out | apply below_alloc | apply pw_below_drewN | apply below_drew1 | refine below_set ?_ GE150.out) | exact HB.out))) : w.heap.size ≤ gb169)); have n5_ := Aside0.mk ((by rw [hg]; exact (below_size (by repeat (first | (with_reducible first | exact HB.out | apply below_alloc | apply pw_below_drewN | apply below_drew1 | refine below_set ?_ GE150.out) | exact HB.out))) : w.heap.size ≤ gb169)); have n6_ := Aside0.mk ((by rw [hg]; exact Nat.ne_of_lt (blk_lt (g := gb150) (o := .cells #[.int .i64 a0_0, .int .i64 a0_1, .int .i64 a0_2, .int .i64 a0_3, .int .i64 a0_4, .int .i64 a0_5, .int .i32 a0_6, .slice A0_7 l0_7.length c0_7] 24 (0, 0)) (by (with_reducible repeat (first | refine blk_drewN ?_ _ | refine blk_drew ?_ | refine blk_alloc ?_ _)); exact BK150.out)) : gb150 ≠ gb169)); have n7_ := Aside0.mk ((by rw [hg]; exact Nat.ne_of_gt (blk_lt (g := gb150) (o := .cells #[.int .i64 a0_0, .int .i64 a0_1, .int .i64 a0_2, .int .i64 a0_3, .int .i64 a0_4, .int .i64 a0_5, .int .i32 a0_6, .slice A0_7 l0_7.length c0_7] 24 (0, 0)) (by (with_reducible repeat (first | refine blk_drewN ?_ _ | refine blk_drew ?_ | refine blk_alloc ?_ _)); exact BK150.out)) : gb169 ≠ gb150)); clear HO_6; clear BK150; clear HB; have HO_6 := n0_; have BK150 := n1_; have HB := n2_; have BK169 := n3_; have GW169 := n4_; have GE169 := n5_; have NB150_169 := n6_; have NB169_150 := n7_; clear n0_ n1_ n2_ n3_ n4_ n5_ n6_ n7_; clear hb hbox hg; have hnb97 := NB169_150.out; have hnc97 := NB150_169.out; have hcz98_0 : w96.cell? ⟨gb169, 0, none⟩ = some (.int .i64 0) := (blk_cell BK169.out 0).trans rfl; have hcz98_1 : w96.cell? ⟨gb169, 1, none⟩ = some (.int .i64 0) := (blk_cell BK169.out 1).trans rfl; have hcz98_2 : w96.cell? ⟨gb169, 2, none⟩ = some (.int .i64 0) := (blk_cell BK169.out 2).trans rfl; have hfz98_0 := blk_frozen BK169.out 0; have hfz98_1 := blk_frozen BK169.out 1; have hfz98_2 := blk_frozen BK169.out 2)); go_upto_region 37 with (first | (go_at_call 50; (with_reducible refine (jacquardref18_Fields.calls k4 a0_0 t165 _ A43.out).mono ?_); rintro e w' ⟨rfl, ⟨nd, rfl⟩⟩; (try first | exact ⟨rfl, _, World.drewN_drewN _ _ _⟩ | exact ⟨rfl, _, Eq.trans (World.drewN_drewN _ _ _) (congrArg (World.drewN _) (Nat.add_assoc _ _ _))⟩); have p47 : 0 ≤ ((ji44) : Int) := of_decide_eq_true (by first | (with_reducible assumption) | assumption); have q47 : (ji44) < (t165.size : Int) := of_decide_eq_true (by first | (with_reducible assumption) | assumption); have hx47 := bt_at t165 (ji44); replace p47 := eq_true p47; replace q47 := eq_true q47) | (go_at_call 51; (with_reducible refine (jacquardref18_Of.calls (bt t165 (ji44)) x4_3 t166 t167 t168 _ A48.out).mono ?_); rintro e w95 ⟨rfl, hb⟩; have n0_ := Aside0.mk (Kd.R_below (by (with_reducible repeat (first | apply Kd.R_alloc | apply Kd.R_drewN | apply Kd.R_drew)); exact HO_6.out) hb); have n1_ := Aside0.mk (blk_below (g := gb150) (o := .cells #[.int .i64 a0_0, .int .i64 a0_1, .int .i64 a0_2, .int .i64 a0_3, .int .i64 a0_4, .int .i64 a0_5, .int .i32 a0_6, .slice A0_7 l0_7.length c0_7] 24 (0, 0)) (by (with_reducible repeat (first | refine blk_drewN ?_ _ | refine blk_drew ?_ | refine blk_alloc ?_ _)); exact BK150.out) hb); have n2_ := Aside0.mk (below_step (by repeat (first | (with_reducible first | exact HB.out | apply below_alloc | apply pw_below_drewN | apply below_drew1 | refine below_set ?_ GE150.out) | exact HB.out)) hb); clear HO_6; clear BK150; clear HB; have HO_6 := n0_; have BK150 := n1_; have HB := n2_; clear n0_ n1_ n2_; (try clear hb); (try clear hb2); (try clear hk); (try clear hi)) | ((with_reducible refine gate_dst (N := 12) rfl ?_); refine box_event ?hg (N := 12) ?hd (cs := #[.int .i64 0, .int .i64 0, .int .i64 0]) (t := 70) ?hr ?_; (case hd => rfl); (case hg => rfl); (case hr => first | (go_simp; done) | (go_simp; rfl)); intro gb169 hg w96 hbox hb; have n0_ := Aside0.mk (Kd.R_below (by (with_reducible repeat (first | apply Kd.R_alloc | apply Kd.R_drewN | apply Kd.R_drew)); exact HO_6.out) hb); have n1_ := Aside0.mk (blk_below (g := gb150) (o := .cells #[.int .i64 a0_0, .int .i64 a0_1, .int .i64 a0_2, .int .i64 a0_3, .int .i64 a0_4, .int .i64 a0_5, .int .i32 a0_6, .slice A0_7 l0_7.length c0_7] 24 (0, 0)) (by (with_reducible repeat (first | refine blk_drewN ?_ _ | refine blk_drew ?_ | refine blk_alloc ?_ _)); exact BK150.out) hb); have n2_ := Aside0.mk (below_step (by repeat (first | (with_reducible first | exact HB.out | apply below_alloc | apply pw_below_drewN | apply below_drew1 | refine below_set ?_ GE150.out) | exact HB.out)) hb); have n3_ := Aside0.mk (hbox); have n4_ := Aside0.mk ((by rw [hg]; exact (below_size (by repeat (first | (with_reducible first | exact HB.out | apply below_alloc | apply pw_below_drewN | apply below_drew1 | refine below_set ?_ GE150.out) | exact HB.out))) : w.heap.size ≤ gb169)); have n5_ := Aside0.mk ((by rw [hg]; exact (below_size (by repeat (first | (with_reducible first | exact HB.out | apply below_alloc | apply pw_below_drewN | apply below_drew1 | refine below_set ?_ GE150.out) | exact HB.out))) : w.heap.size ≤ gb169)); have n6_ := Aside0.mk ((by rw [hg]; exact Nat.ne_of_lt (blk_lt (g := gb150) (o := .cells #[.int .i64 a0_0, .int .i64 a0_1, .int .i64 a0_2, .int .i64 a0_3, .int .i64 a0_4, .int .i64 a0_5, .int .i32 a0_6, .slice A0_7 l0_7.length c0_7] 24 (0, 0)) (by (with_reducible repeat (first | refine blk_drewN ?_ _ | refine blk_drew ?_ | refine blk_alloc ?_ _)); exact BK150.out)) : gb150 ≠ gb169)); have n7_ := Aside0.mk ((by rw [hg]; exact Nat.ne_of_gt (blk_lt (g := gb150) (o := .cells #[.int .i64 a0_0, .int .i64 a0_1, .int .i64 a0_2, .int .i64 a0_3, .int .i64 a0_4, .int .i64 a0_5, .int .i32 a0_6, .slice A0_7 l0_7.length c0_7] 24 (0, 0)) (by (with_reducible repeat (first | refine blk_drewN ?_ _ | refine blk_drew ?_ | refine blk_alloc ?_ _)); exact BK150.out)) : gb169 ≠ gb150)); clear HO_6; clear BK150; clear HB; have HO_6 := n0_; have BK150 := n1_; have HB := n2_; have BK169 := n3_; have GW169 := n4_; have GE169 := n5_; have NB150_169 := n6_; have NB169_150 := n7_; clear n0_ n1_ n2_ n3_ n4_ n5_ n6_ n7_; clear hb hbox hg; have hnb97 := NB169_150.out; have hnc97 := NB150_169.out; have hcz98_0 : w96.cell? ⟨gb169, 0, none⟩ = some (.int .i64 0) := (blk_cell BK169.out 0).trans rfl; have hcz98_1 : w96.cell? ⟨gb169, 1, none⟩ = some (.int .i64 0) := (blk_cell BK169.out 1).trans rfl; have hcz98_2 : w96.cell? ⟨gb169, 2, none⟩ = some (.int .i64 0) := (blk_cell BK169.out 2).trans rfl; have hfz98_0 := blk_frozen BK169.out 0; have hfz98_1 := blk_frozen BK169.out 1; have hfz98_2 := blk_frozen BK169.out 2)))
                 (try simp only [Act.put, List.setIfInBounds_toArray, List.set_cons_zero, List.set_cons_succ])
                 go_cut [157] (fun v157 wc => ∃ (kq : Nat) (x157_92 : Bool), v157 = .bool x157_92 ∧ Aside0 (jacquardref18_Put.j5 kq x5_4 (bt t165 (ji44)) x157_92 a0_0 a0_1 a0_2 a0_3 a0_4 a0_5 a0_6 l0_7 t166 t167 t168 = some (r1, r2)) ∧ Aside0 (kq ≤ k4) ∧ Aside0 (wc.heap[gb150]? = some (.cells #[.int .i64 a0_0, .int .i64 a0_1, .int .i64 a0_2, .int .i64 a0_3, .int .i64 a0_4, .int .i64 a0_5, .int .i32 a0_6, (.slice A0_7 l0_7.length c0_7)] 24 (0, 0))) ∧ Aside0 (wc.heap[gb169]? = some (.cells #[.int .i64 t166, .int .i64 t167, .int .i64 t168] 70 (0, 0))) ∧ Aside0 (Below w.heap.size w wc))
                 case first =>
                  have H := HC93.out
                  clear HC93
                  by_cases c99 : (wrap64 (a0_6)) < t167
                  ·rw [if_pos c99] at H
                   have c99b0 : decide ((wrap64 (a0_6)) < t167) = true := decide_eq_true c99
                   clear c99
                   (first | rw [c99b0] | (simp only [i64_w, i32_w]; rw [c99b0]) | skip)
                   have H' := Aside0.mk H
                   clear H
                   have hnb100 := NB150_169.out
                   have hnc100 := NB169_150.out
                   have hcz101_0 : w96.cell? ⟨gb150, 0, none⟩ = some (.int .i64 a0_0) := (blk_cell BK150.out 0).trans rfl
                   have hcz101_1 : w96.cell? ⟨gb150, 1, none⟩ = some (.int .i64 a0_1) := (blk_cell BK150.out 1).trans rfl
                   have hcz101_2 : w96.cell? ⟨gb150, 2, none⟩ = some (.int .i64 a0_2) := (blk_cell BK150.out 2).trans rfl
                   have hcz101_3 : w96.cell? ⟨gb150, 3, none⟩ = some (.int .i64 a0_3) := (blk_cell BK150.out 3).trans rfl
                   have hcz101_4 : w96.cell? ⟨gb150, 4, none⟩ = some (.int .i64 a0_4) := (blk_cell BK150.out 4).trans rfl
                   have hcz101_5 : w96.cell? ⟨gb150, 5, none⟩ = some (.int .i64 a0_5) := (blk_cell BK150.out 5).trans rfl
                   have hcz101_6 : w96.cell? ⟨gb150, 6, none⟩ = some (.int .i32 a0_6) := (blk_cell BK150.out 6).trans rfl
                   have hcz101_7 : w96.cell? ⟨gb150, 7, none⟩ = some (.slice A0_7 l0_7.length c0_7) := (blk_cell BK150.out 7).trans rfl
                   have hfz101_0 := blk_frozen BK150.out 0
                   have hfz101_1 := blk_frozen BK150.out 1
                   have hfz101_2 := blk_frozen BK150.out 2
                   have hfz101_3 := blk_frozen BK150.out 3
                   have hfz101_4 := blk_frozen BK150.out 4
                   have hfz101_5 := blk_frozen BK150.out 5
                   have hfz101_6 := blk_frozen BK150.out 6
                   have hfz101_7 := blk_frozen BK150.out 7
                   have hcz102_0 : w96.cell? ⟨gb169, 0, none⟩ = some (.int .i64 0) := (blk_cell BK169.out 0).trans rfl
                   have hcz102_1 : w96.cell? ⟨gb169, 1, none⟩ = some (.int .i64 0) := (blk_cell BK169.out 1).trans rfl
                   have hcz102_2 : w96.cell? ⟨gb169, 2, none⟩ = some (.int .i64 0) := (blk_cell BK169.out 2).trans rfl
                   have hfz102_0 := blk_frozen BK169.out 0
                   have hfz102_1 := blk_frozen BK169.out 1
                   have hfz102_2 := blk_frozen BK169.out 2
                   go_wp2
                   repeat (go_quiet (fail); try go_wp2)
                   go_meet
                   case rel => exact ⟨_, (true), (by first | rfl | (simp; done) | (simp [*]; done)), H', ⟨by have := HJ3.out; have := HJ12.out; have := HK3.out; have := HK4.out; first | omega | exact Nat.le_refl _⟩, ⟨by (with_reducible repeat (first | refine blk_drewN ?_ _ | refine blk_drew ?_ | refine blk_alloc ?_ _)); refine blk_far ?_ NB150_169.out _; (with_reducible repeat (first | refine blk_drewN ?_ _ | refine blk_drew ?_ | refine blk_alloc ?_ _)); refine blk_far ?_ NB150_169.out _; (with_reducible repeat (first | refine blk_drewN ?_ _ | refine blk_drew ?_ | refine blk_alloc ?_ _)); refine blk_far ?_ NB150_169.out _; (with_reducible repeat (first | refine blk_drewN ?_ _ | refine blk_drew ?_ | refine blk_alloc ?_ _)); exact BK150.out⟩, ⟨by (with_reducible repeat (first | refine blk_drewN ?_ _ | refine blk_drew ?_ | refine blk_alloc ?_ _)); refine blk_put (cs := #[.int .i64 t166, .int .i64 t167, .int .i64 0]) ?_ 2 _ rfl; (with_reducible repeat (first | refine blk_drewN ?_ _ | refine blk_drew ?_ | refine blk_alloc ?_ _)); refine blk_put (cs := #[.int .i64 t166, .int .i64 0, .int .i64 0]) ?_ 1 _ rfl; (with_reducible repeat (first | refine blk_drewN ?_ _ | refine blk_drew ?_ | refine blk_alloc ?_ _)); refine blk_put (cs := #[.int .i64 0, .int .i64 0, .int .i64 0]) ?_ 0 _ rfl; (with_reducible repeat (first | refine blk_drewN ?_ _ | refine blk_drew ?_ | refine blk_alloc ?_ _)); exact BK169.out⟩, ⟨by repeat (first | (with_reducible first | exact HB.out | apply below_alloc | apply pw_below_drewN | apply below_drew1 | refine below_set ?_ GE150.out | refine below_set ?_ GE169.out) | exact HB.out)⟩⟩
                  ·rw [if_neg c99] at H
                   have c99b0 : decide ((wrap64 (a0_6)) < t167) = false := decide_eq_false c99
                   clear c99
                   (first | rw [c99b0] | (simp only [i64_w, i32_w]; rw [c99b0]) | skip)
                   have H' := Aside0.mk H
                   clear H
                   have hnb103 := NB150_169.out
                   have hnc103 := NB169_150.out
                   have hcz104_0 : w96.cell? ⟨gb150, 0, none⟩ = some (.int .i64 a0_0) := (blk_cell BK150.out 0).trans rfl
                   have hcz104_1 : w96.cell? ⟨gb150, 1, none⟩ = some (.int .i64 a0_1) := (blk_cell BK150.out 1).trans rfl
                   have hcz104_2 : w96.cell? ⟨gb150, 2, none⟩ = some (.int .i64 a0_2) := (blk_cell BK150.out 2).trans rfl
                   have hcz104_3 : w96.cell? ⟨gb150, 3, none⟩ = some (.int .i64 a0_3) := (blk_cell BK150.out 3).trans rfl
                   have hcz104_4 : w96.cell? ⟨gb150, 4, none⟩ = some (.int .i64 a0_4) := (blk_cell BK150.out 4).trans rfl
                   have hcz104_5 : w96.cell? ⟨gb150, 5, none⟩ = some (.int .i64 a0_5) := (blk_cell BK150.out 5).trans rfl
                   have hcz104_6 : w96.cell? ⟨gb150, 6, none⟩ = some (.int .i32 a0_6) := (blk_cell BK150.out 6).trans rfl
                   have hcz104_7 : w96.cell? ⟨gb150, 7, none⟩ = some (.slice A0_7 l0_7.length c0_7) := (blk_cell BK150.out 7).trans rfl
                   have hfz104_0 := blk_frozen BK150.out 0
                   have hfz104_1 := blk_frozen BK150.out 1
                   have hfz104_2 := blk_frozen BK150.out 2
                   have hfz104_3 := blk_frozen BK150.out 3
                   have hfz104_4 := blk_frozen BK150.out 4
                   have hfz104_5 := blk_frozen BK150.out 5
                   have hfz104_6 := blk_frozen BK150.out 6
                   have hfz104_7 := blk_frozen BK150.out 7
                   have hcz105_0 : w96.cell? ⟨gb169, 0, none⟩ = some (.int .i64 0) := (blk_cell BK169.out 0).trans rfl
                   have hcz105_1 : w96.cell? ⟨gb169, 1, none⟩ = some (.int .i64 0) := (blk_cell BK169.out 1).trans rfl
                   have hcz105_2 : w96.cell? ⟨gb169, 2, none⟩ = some (.int .i64 0) := (blk_cell BK169.out 2).trans rfl
                   have hfz105_0 := blk_frozen BK169.out 0
                   have hfz105_1 := blk_frozen BK169.out 1
                   have hfz105_2 := blk_frozen BK169.out 2
                   go_wp2
                   repeat (go_quiet (fail); try go_wp2)
                   go_meet
                   case rel => exact ⟨_, (decide ((wrap64 (a0_6)) > t168)), (by first | rfl | (simp; done) | (simp [*]; done)), H', ⟨by have := HJ3.out; have := HJ12.out; have := HK3.out; have := HK4.out; first | omega | exact Nat.le_refl _⟩, ⟨by (with_reducible repeat (first | refine blk_drewN ?_ _ | refine blk_drew ?_ | refine blk_alloc ?_ _)); refine blk_far ?_ NB150_169.out _; (with_reducible repeat (first | refine blk_drewN ?_ _ | refine blk_drew ?_ | refine blk_alloc ?_ _)); refine blk_far ?_ NB150_169.out _; (with_reducible repeat (first | refine blk_drewN ?_ _ | refine blk_drew ?_ | refine blk_alloc ?_ _)); refine blk_far ?_ NB150_169.out _; (with_reducible repeat (first | refine blk_drewN ?_ _ | refine blk_drew ?_ | refine blk_alloc ?_ _)); exact BK150.out⟩, ⟨by (with_reducible repeat (first | refine blk_drewN ?_ _ | refine blk_drew ?_ | refine blk_alloc ?_ _)); refine blk_put (cs := #[.int .i64 t166, .int .i64 t167, .int .i64 0]) ?_ 2 _ rfl; (with_reducible repeat (first | refine blk_drewN ?_ _ | refine blk_drew ?_ | refine blk_alloc ?_ _)); refine blk_put (cs := #[.int .i64 t166, .int .i64 0, .int .i64 0]) ?_ 1 _ rfl; (with_reducible repeat (first | refine blk_drewN ?_ _ | refine blk_drew ?_ | refine blk_alloc ?_ _)); refine blk_put (cs := #[.int .i64 0, .int .i64 0, .int .i64 0]) ?_ 0 _ rfl; (with_reducible repeat (first | refine blk_drewN ?_ _ | refine blk_drew ?_ | refine blk_alloc ?_ _)); exact BK169.out⟩, ⟨by repeat (first | (with_reducible first | exact HB.out | apply below_alloc | apply pw_below_drewN | apply below_drew1 | refine below_set ?_ GE150.out | refine below_set ?_ GE169.out) | exact HB.out)⟩⟩
                 case rest =>
                  clear HC93
                  try clear c1
                  try clear p1
                  try clear q1
                  try clear hx1
                  try clear c2
                  try clear p2
                  try clear c3
                  try clear c4
                  try clear p4
                  try clear q4
                  try clear hx4
                  try clear c5
                  try clear c6
                  try clear p6
                  try clear c7
                  try clear c8
                  try clear c9
                  try clear c10
                  try clear p15
                  try clear q15
                  try clear hx15
                  try clear c16
                  try clear p16
                  try clear q16
                  try clear hx16
                  try clear p17
                  try clear q17
                  try clear hx17
                  try clear c18
                  try clear c23
                  try clear c23b0
                  try clear c24
                  try clear c24b0
                  try clear c25
                  try clear c25b0
                  try clear c27
                  try clear c27b0
                  try clear c31
                  try clear c31b0
                  try clear c32
                  try clear c32b0
                  try clear c34
                  try clear c34b0
                  try clear c35
                  try clear c35b0
                  try clear c37
                  try clear c37b0
                  try clear c37b1
                  try clear c37b2
                  try clear c39
                  try clear c39b0
                  try clear c41
                  try clear c41b0
                  try clear c41b1
                  try clear c41b2
                  try clear c45
                  try clear c45b0
                  try clear c46
                  try clear c46b0
                  try clear p47
                  try clear q47
                  try clear hx47
                  try clear c49
                  try clear c49b0
                  try clear c49b1
                  try clear c51
                  try clear c51b0
                  try clear c51b1
                  try clear c51b2
                  try clear c55
                  try clear c59
                  try clear c59b0
                  try clear c59b1
                  try clear c61
                  try clear c61b0
                  try clear c61b1
                  try clear c61b2
                  try clear p64
                  try clear c65
                  try clear c69
                  try clear c69b0
                  try clear c70
                  try clear c70b0
                  try clear c71
                  try clear c71b0
                  try clear c72
                  try clear c75
                  try clear c75b0
                  try clear c76
                  try clear c80
                  try clear c80b0
                  try clear c80b1
                  try clear c80b2
                  try clear c81
                  try clear c85
                  try clear c87
                  try clear c87b0
                  try clear c87b1
                  try clear c91
                  try clear c97
                  try clear c99
                  try clear c99b0
                  try clear c100
                  try clear c103
                  try clear hcz101_0
                  try clear hcz101_1
                  try clear hcz101_2
                  try clear hcz101_3
                  try clear hcz101_4
                  try clear hcz101_5
                  try clear hcz101_6
                  try clear hcz101_7
                  try clear hcz102_0
                  try clear hcz102_1
                  try clear hcz102_2
                  try clear hcz104_0
                  try clear hcz104_1
                  try clear hcz104_2
                  try clear hcz104_3
                  try clear hcz104_4
                  try clear hcz104_5
                  try clear hcz104_6
                  try clear hcz104_7
                  try clear hcz105_0
                  try clear hcz105_1
                  try clear hcz105_2
                  try clear hcz10_0
                  try clear hcz10_1
                  try clear hcz10_2
                  try clear hcz10_3
                  try clear hcz10_4
                  try clear hcz10_5
                  try clear hcz10_6
                  try clear hcz10_7
                  try clear hcz11_0
                  try clear hcz11_1
                  try clear hcz11_2
                  try clear hcz11_3
                  try clear hcz11_4
                  try clear hcz11_5
                  try clear hcz11_6
                  try clear hcz11_7
                  try clear hcz14_0
                  try clear hcz14_1
                  try clear hcz14_2
                  try clear hcz14_3
                  try clear hcz14_4
                  try clear hcz14_5
                  try clear hcz14_6
                  try clear hcz14_7
                  try clear hcz18_0
                  try clear hcz18_1
                  try clear hcz18_2
                  try clear hcz18_3
                  try clear hcz18_4
                  try clear hcz18_5
                  try clear hcz18_6
                  try clear hcz18_7
                  try clear hcz21_0
                  try clear hcz21_1
                  try clear hcz21_2
                  try clear hcz21_3
                  try clear hcz21_4
                  try clear hcz21_5
                  try clear hcz21_6
                  try clear hcz21_7
                  try clear hcz52_0
                  try clear hcz52_1
                  try clear hcz52_2
                  try clear hcz52_3
                  try clear hcz52_4
                  try clear hcz52_5
                  try clear hcz52_6
                  try clear hcz52_7
                  try clear hcz56_0
                  try clear hcz56_1
                  try clear hcz56_2
                  try clear hcz57_0
                  try clear hcz57_1
                  try clear hcz57_2
                  try clear hcz57_3
                  try clear hcz57_4
                  try clear hcz57_5
                  try clear hcz57_6
                  try clear hcz57_7
                  try clear hcz62_0
                  try clear hcz62_1
                  try clear hcz62_2
                  try clear hcz62_3
                  try clear hcz62_4
                  try clear hcz62_5
                  try clear hcz62_6
                  try clear hcz62_7
                  try clear hcz66_0
                  try clear hcz66_1
                  try clear hcz66_2
                  try clear hcz67_0
                  try clear hcz67_1
                  try clear hcz67_2
                  try clear hcz67_3
                  try clear hcz67_4
                  try clear hcz67_5
                  try clear hcz67_6
                  try clear hcz67_7
                  try clear hcz6_0
                  try clear hcz6_1
                  try clear hcz6_2
                  try clear hcz6_3
                  try clear hcz6_4
                  try clear hcz6_5
                  try clear hcz6_6
                  try clear hcz6_7
                  try clear hcz73_0
                  try clear hcz73_1
                  try clear hcz73_2
                  try clear hcz73_3
                  try clear hcz73_4
                  try clear hcz73_5
                  try clear hcz73_6
                  try clear hcz73_7
                  try clear hcz74_0
                  try clear hcz74_1
                  try clear hcz74_2
                  try clear hcz77_0
                  try clear hcz77_1
                  try clear hcz77_2
                  try clear hcz77_3
                  try clear hcz77_4
                  try clear hcz77_5
                  try clear hcz77_6
                  try clear hcz77_7
                  try clear hcz78_0
                  try clear hcz78_1
                  try clear hcz78_2
                  try clear hcz82_0
                  try clear hcz82_1
                  try clear hcz82_2
                  try clear hcz82_3
                  try clear hcz82_4
                  try clear hcz82_5
                  try clear hcz82_6
                  try clear hcz82_7
                  try clear hcz83_0
                  try clear hcz83_1
                  try clear hcz83_2
                  try clear hcz86_0
                  try clear hcz86_1
                  try clear hcz86_2
                  try clear hcz86_3
                  try clear hcz86_4
                  try clear hcz86_5
                  try clear hcz86_6
                  try clear hcz86_7
                  try clear hcz88_0
                  try clear hcz88_1
                  try clear hcz88_2
                  try clear hcz88_3
                  try clear hcz88_4
                  try clear hcz88_5
                  try clear hcz88_6
                  try clear hcz88_7
                  try clear hcz92_0
                  try clear hcz92_1
                  try clear hcz92_2
                  try clear hcz94_0
                  try clear hcz94_1
                  try clear hcz94_2
                  try clear hcz94_3
                  try clear hcz94_4
                  try clear hcz94_5
                  try clear hcz94_6
                  try clear hcz94_7
                  try clear hcz98_0
                  try clear hcz98_1
                  try clear hcz98_2
                  try clear hfz101_0
                  try clear hfz101_1
                  try clear hfz101_2
                  try clear hfz101_3
                  try clear hfz101_4
                  try clear hfz101_5
                  try clear hfz101_6
                  try clear hfz101_7
                  try clear hfz102_0
                  try clear hfz102_1
                  try clear hfz102_2
                  try clear hfz104_0
                  try clear hfz104_1
                  try clear hfz104_2
                  try clear hfz104_3
                  try clear hfz104_4
                  try clear hfz104_5
                  try clear hfz104_6
                  try clear hfz104_7
                  try clear hfz105_0
                  try clear hfz105_1
                  try clear hfz105_2
                  try clear hfz10_0
                  try clear hfz10_1
                  try clear hfz10_2
                  try clear hfz10_3
                  try clear hfz10_4
                  try clear hfz10_5
                  try clear hfz10_6
                  try clear hfz10_7
                  try clear hfz11_0
                  try clear hfz11_1
                  try clear hfz11_2
                  try clear hfz11_3
                  try clear hfz11_4
                  try clear hfz11_5
                  try clear hfz11_6
                  try clear hfz11_7
                  try clear hfz14_0
                  try clear hfz14_1
                  try clear hfz14_2
                  try clear hfz14_3
                  try clear hfz14_4
                  try clear hfz14_5
                  try clear hfz14_6
                  try clear hfz14_7
                  try clear hfz18_0
                  try clear hfz18_1
                  try clear hfz18_2
                  try clear hfz18_3
                  try clear hfz18_4
                  try clear hfz18_5
                  try clear hfz18_6
                  try clear hfz18_7
                  try clear hfz21_0
                  try clear hfz21_1
                  try clear hfz21_2
                  try clear hfz21_3
                  try clear hfz21_4
                  try clear hfz21_5
                  try clear hfz21_6
                  try clear hfz21_7
                  try clear hfz52_0
                  try clear hfz52_1
                  try clear hfz52_2
                  try clear hfz52_3
                  try clear hfz52_4
                  try clear hfz52_5
                  try clear hfz52_6
                  try clear hfz52_7
                  try clear hfz56_0
                  try clear hfz56_1
                  try clear hfz56_2
                  try clear hfz57_0
                  try clear hfz57_1
                  try clear hfz57_2
                  try clear hfz57_3
                  try clear hfz57_4
                  try clear hfz57_5
                  try clear hfz57_6
                  try clear hfz57_7
                  try clear hfz62_0
                  try clear hfz62_1
                  try clear hfz62_2
                  try clear hfz62_3
                  try clear hfz62_4
                  try clear hfz62_5
                  try clear hfz62_6
                  try clear hfz62_7
                  try clear hfz66_0
                  try clear hfz66_1
                  try clear hfz66_2
                  try clear hfz67_0
                  try clear hfz67_1
                  try clear hfz67_2
                  try clear hfz67_3
                  try clear hfz67_4
                  try clear hfz67_5
                  try clear hfz67_6
                  try clear hfz67_7
                  try clear hfz6_0
                  try clear hfz6_1
                  try clear hfz6_2
                  try clear hfz6_3
                  try clear hfz6_4
                  try clear hfz6_5
                  try clear hfz6_6
                  try clear hfz6_7
                  try clear hfz73_0
                  try clear hfz73_1
                  try clear hfz73_2
                  try clear hfz73_3
                  try clear hfz73_4
                  try clear hfz73_5
                  try clear hfz73_6
                  try clear hfz73_7
                  try clear hfz74_0
                  try clear hfz74_1
                  try clear hfz74_2
                  try clear hfz77_0
                  try clear hfz77_1
                  try clear hfz77_2
                  try clear hfz77_3
                  try clear hfz77_4
                  try clear hfz77_5
                  try clear hfz77_6
                  try clear hfz77_7
                  try clear hfz78_0
                  try clear hfz78_1
                  try clear hfz78_2
                  try clear hfz82_0
                  try clear hfz82_1
                  try clear hfz82_2
                  try clear hfz82_3
                  try clear hfz82_4
                  try clear hfz82_5
                  try clear hfz82_6
                  try clear hfz82_7
                  try clear hfz83_0
                  try clear hfz83_1
                  try clear hfz83_2
                  try clear hfz86_0
                  try clear hfz86_1
                  try clear hfz86_2
                  try clear hfz86_3
                  try clear hfz86_4
                  try clear hfz86_5
                  try clear hfz86_6
                  try clear hfz86_7
                  try clear hfz88_0
                  try clear hfz88_1
                  try clear hfz88_2
                  try clear hfz88_3
                  try clear hfz88_4
                  try clear hfz88_5
                  try clear hfz88_6
                  try clear hfz88_7
                  try clear hfz92_0
                  try clear hfz92_1
                  try clear hfz92_2
                  try clear hfz94_0
                  try clear hfz94_1
                  try clear hfz94_2
                  try clear hfz94_3
                  try clear hfz94_4
                  try clear hfz94_5
                  try clear hfz94_6
                  try clear hfz94_7
                  try clear hfz98_0
                  try clear hfz98_1
                  try clear hfz98_2
                  try clear hx158_0
                  try clear hx159_0
                  try clear hx160_0
                  try clear hx161_0
                  try clear hx163_0
                  try clear hx172_0
                  try clear hx173_0
                  try clear hx174_0
                  try clear p1
                  try clear p15
                  try clear p158
                  try clear p159
                  try clear p16
                  try clear p160
                  try clear p161
                  try clear p163
                  try clear p172
                  try clear p173
                  try clear p174
                  try clear p2
                  try clear p4
                  try clear p47
                  try clear p6
                  try clear p64
                  try clear q1
                  try clear q15
                  try clear q158
                  try clear q159
                  try clear q16
                  try clear q160
                  try clear q161
                  try clear q163
                  try clear q172
                  try clear q173
                  try clear q174
                  try clear q4
                  try clear q47
                  obtain ⟨kq, x157_92, rfl, HA, HJ92, BK150, BK169, HB⟩ := hcut
                  cases kq with
                  | zero => exact absurd HA.out (by simp [jacquardref18_Put.j5])
                  | succ kj92 =>
                   have H := HA.out
                   clear HA
                   simp only [jacquardref18_Put.j5] at H
                   by_cases c106 : x157_92 = true
                   ·subst c106
                    have H1 : (if (bt t165 (ji44)) = 98 then (some ((⟨#[]⟩ : ByteArray), 61)) else (some ((⟨#[]⟩ : ByteArray), 32))) = some (r1, r2) := by rw [if_pos rfl] at H; exact H
                    clear H
                    have H := H1
                    clear H1
                    by_cases c107 : (bt t165 (ji44)) = 98
                    ·rw [if_pos c107] at H
                     have c107b0 : ((bt t165 (ji44)) == 98) = true := beq_iff_eq.mpr c107
                     have c107b1 : ((bt t165 (ji44)) != 98) = false := bne_eq_false_iff_eq.mpr c107
                     clear c107
                     simp only [Option.some.injEq, Prod.mk.injEq] at H
                     obtain ⟨rfl, rfl⟩ := H
                     go_wp2
                     repeat (go_quiet (fail); try go_wp2)
                     go_ret2
                     exact ⟨by first | rfl | (simp [errW_none, errW_some] <;> rfl) | (simp only [← hji44]; first | rfl | (simp [errW_none, errW_some] <;> rfl)) | (simp [*, errW_none, errW_some] <;> rfl), by repeat (first | (with_reducible first | exact HB.out | apply below_alloc | apply pw_below_drewN | apply below_drew1 | refine below_set ?_ GE150.out | refine below_set ?_ GE169.out) | exact HB.out)⟩
                    ·rw [if_neg c107] at H
                     have c107b0 : ((bt t165 (ji44)) == 98) = false := beq_eq_false_iff_ne.mpr c107
                     have c107b1 : ((bt t165 (ji44)) != 98) = true := bne_iff_ne.mpr c107
                     simp only [Option.some.injEq, Prod.mk.injEq] at H
                     obtain ⟨rfl, rfl⟩ := H
                     go_wp2
                     repeat (go_quiet (fail); try go_wp2)
                     go_ret2
                     exact ⟨by first | rfl | (simp [errW_none, errW_some] <;> rfl) | (simp only [← hji44]; first | rfl | (simp [errW_none, errW_some] <;> rfl)) | (simp [*, errW_none, errW_some] <;> rfl), by repeat (first | (with_reducible first | exact HB.out | apply below_alloc | apply pw_below_drewN | apply below_drew1 | refine below_set ?_ GE150.out | refine below_set ?_ GE169.out) | exact HB.out)⟩
                   ·replace c106 := Bool.eq_false_iff.mpr c106
                    subst c106
                    have H1 : (if a0_0 = 28 then ((jacquardref18_Bytes.f kj92 (l0_7.length : Int) 1).bind fun t176 => (if x5_4.size + t176.size ≤ 9223372036854775807 then ((jacquardref18_Bytes.f kj92 (wrap64 (a0_6)) t166).bind fun t177 => (if (x5_4 ++ t176).size + t177.size ≤ 9223372036854775807 then (some ((x5_4 ++ t176) ++ t177, 0)) else (none))) else (none))) else ((jacquardref18_Bytes.f kj92 (wrap64 (a0_6)) t166).bind fun t178 => (if x5_4.size + t178.size ≤ 9223372036854775807 then (some (x5_4 ++ t178, 0)) else (none)))) = some (r1, r2) := by rw [if_neg (show ¬ (false = true) by decide)] at H; exact H
                    clear H
                    have H := H1
                    clear H1
                    by_cases c108 : a0_0 = 28
                    ·rw [if_pos c108] at H
                     have c108b0 : (a0_0 == 28) = true := beq_iff_eq.mpr c108
                     have c108b1 : (a0_0 != 28) = false := bne_eq_false_iff_eq.mpr c108
                     clear c108
                     replace H := Option.bind_eq_some_iff.mp H
                     obtain ⟨t176, A1090, H⟩ := H
                     replace H : (if x5_4.size + t176.size ≤ 9223372036854775807 then ((jacquardref18_Bytes.f kj92 (wrap64 (a0_6)) t166).bind fun t177 => (if (x5_4 ++ t176).size + t177.size ≤ 9223372036854775807 then (some ((x5_4 ++ t176) ++ t177, 0)) else (none))) else (none)) = some (r1, r2) := H
                     have A109 := Aside0.mk A1090
                     clear A1090
                     by_cases c110 : x5_4.size + t176.size ≤ 9223372036854775807
                     ·rw [if_pos c110] at H
                      have c110b0 := eq_true c110
                      have c110b1 : decide (x5_4.size + t176.size ≤ 9223372036854775807) = true := decide_eq_true c110
                      try have c110b2 : (9223372036854775807 < x5_4.size + t176.size) = False := eq_false (Nat.not_lt.2 c110)
                      replace H := Option.bind_eq_some_iff.mp H
                      obtain ⟨t177, A1110, H⟩ := H
                      replace H : (if (x5_4 ++ t176).size + t177.size ≤ 9223372036854775807 then (some ((x5_4 ++ t176) ++ t177, 0)) else (none)) = some (r1, r2) := H
                      have A111 := Aside0.mk A1110
                      clear A1110
                      by_cases c112 : (x5_4 ++ t176).size + t177.size ≤ 9223372036854775807
                      ·rw [if_pos c112] at H
                       have c112b0 := eq_true c112
                       have c112b1 : decide ((x5_4 ++ t176).size + t177.size ≤ 9223372036854775807) = true := decide_eq_true c112
                       try have c112b2 : (9223372036854775807 < (x5_4 ++ t176).size + t177.size) = False := eq_false (Nat.not_lt.2 c112)
                       simp only [Option.some.injEq, Prod.mk.injEq] at H
                       obtain ⟨rfl, rfl⟩ := H
                       have hnb113 := NB150_169.out
                       have hnc113 := NB169_150.out
                       have hcz114_0 : wc.cell? ⟨gb150, 0, none⟩ = some (.int .i64 a0_0) := (blk_cell BK150.out 0).trans rfl
                       have hcz114_1 : wc.cell? ⟨gb150, 1, none⟩ = some (.int .i64 a0_1) := (blk_cell BK150.out 1).trans rfl
                       have hcz114_2 : wc.cell? ⟨gb150, 2, none⟩ = some (.int .i64 a0_2) := (blk_cell BK150.out 2).trans rfl
                       have hcz114_3 : wc.cell? ⟨gb150, 3, none⟩ = some (.int .i64 a0_3) := (blk_cell BK150.out 3).trans rfl
                       have hcz114_4 : wc.cell? ⟨gb150, 4, none⟩ = some (.int .i64 a0_4) := (blk_cell BK150.out 4).trans rfl
                       have hcz114_5 : wc.cell? ⟨gb150, 5, none⟩ = some (.int .i64 a0_5) := (blk_cell BK150.out 5).trans rfl
                       have hcz114_6 : wc.cell? ⟨gb150, 6, none⟩ = some (.int .i32 a0_6) := (blk_cell BK150.out 6).trans rfl
                       have hcz114_7 : wc.cell? ⟨gb150, 7, none⟩ = some (.slice A0_7 l0_7.length c0_7) := (blk_cell BK150.out 7).trans rfl
                       have hfz114_0 := blk_frozen BK150.out 0
                       have hfz114_1 := blk_frozen BK150.out 1
                       have hfz114_2 := blk_frozen BK150.out 2
                       have hfz114_3 := blk_frozen BK150.out 3
                       have hfz114_4 := blk_frozen BK150.out 4
                       have hfz114_5 := blk_frozen BK150.out 5
                       have hfz114_6 := blk_frozen BK150.out 6
                       have hfz114_7 := blk_frozen BK150.out 7
                       go_wp2_with (first | (go_at_call 48; (with_reducible refine (jacquardref18_Bytes.calls kj92 (l0_7.length : Int) 1 t176 _ A109.out).mono ?_); rintro e w115 ⟨rfl, hb⟩; have n0_ := Aside0.mk (blk_below (g := gb150) (o := .cells #[.int .i64 a0_0, .int .i64 a0_1, .int .i64 a0_2, .int .i64 a0_3, .int .i64 a0_4, .int .i64 a0_5, .int .i32 a0_6, .slice A0_7 l0_7.length c0_7] 24 (0, 0)) (by (with_reducible repeat (first | refine blk_drewN ?_ _ | refine blk_drew ?_ | refine blk_alloc ?_ _)); exact BK150.out) hb); have n1_ := Aside0.mk (blk_below (g := gb169) (o := .cells #[.int .i64 t166, .int .i64 t167, .int .i64 t168] 70 (0, 0)) (by (with_reducible repeat (first | refine blk_drewN ?_ _ | refine blk_drew ?_ | refine blk_alloc ?_ _)); exact BK169.out) hb); have n2_ := Aside0.mk (below_step (by repeat (first | (with_reducible first | exact HB.out | apply below_alloc | apply pw_below_drewN | apply below_drew1 | refine below_set ?_ GE150.out | refine below_set ?_ GE169.out) | exact HB.out)) hb); clear BK150; clear BK169; clear HB; have BK150 := n0_; have BK169 := n1_; have HB := n2_; clear n0_ n1_ n2_; (try clear hb); (try clear hb2); (try clear hk); (try clear hi); have hcz116_0 : w115.cell? ⟨gb150, 0, none⟩ = some (.int .i64 a0_0) := (blk_cell BK150.out 0).trans rfl; have hcz116_1 : w115.cell? ⟨gb150, 1, none⟩ = some (.int .i64 a0_1) := (blk_cell BK150.out 1).trans rfl; have hcz116_2 : w115.cell? ⟨gb150, 2, none⟩ = some (.int .i64 a0_2) := (blk_cell BK150.out 2).trans rfl; have hcz116_3 : w115.cell? ⟨gb150, 3, none⟩ = some (.int .i64 a0_3) := (blk_cell BK150.out 3).trans rfl; have hcz116_4 : w115.cell? ⟨gb150, 4, none⟩ = some (.int .i64 a0_4) := (blk_cell BK150.out 4).trans rfl; have hcz116_5 : w115.cell? ⟨gb150, 5, none⟩ = some (.int .i64 a0_5) := (blk_cell BK150.out 5).trans rfl; have hcz116_6 : w115.cell? ⟨gb150, 6, none⟩ = some (.int .i32 a0_6) := (blk_cell BK150.out 6).trans rfl; have hcz116_7 : w115.cell? ⟨gb150, 7, none⟩ = some (.slice A0_7 l0_7.length c0_7) := (blk_cell BK150.out 7).trans rfl; have hfz116_0 := blk_frozen BK150.out 0; have hfz116_1 := blk_frozen BK150.out 1; have hfz116_2 := blk_frozen BK150.out 2; have hfz116_3 := blk_frozen BK150.out 3; have hfz116_4 := blk_frozen BK150.out 4; have hfz116_5 := blk_frozen BK150.out 5; have hfz116_6 := blk_frozen BK150.out 6; have hfz116_7 := blk_frozen BK150.out 7; have hcz117_0 : w115.cell? ⟨gb169, 0, none⟩ = some (.int .i64 t166) := (blk_cell BK169.out 0).trans rfl; have hcz117_1 : w115.cell? ⟨gb169, 1, none⟩ = some (.int .i64 t167) := (blk_cell BK169.out 1).trans rfl; have hcz117_2 : w115.cell? ⟨gb169, 2, none⟩ = some (.int .i64 t168) := (blk_cell BK169.out 2).trans rfl; have hfz117_0 := blk_frozen BK169.out 0; have hfz117_1 := blk_frozen BK169.out 1; have hfz117_2 := blk_frozen BK169.out 2) | (go_at_call 48; (with_reducible refine (jacquardref18_Bytes.calls kj92 (wrap64 (a0_6)) t166 t177 _ A111.out).mono ?_); rintro e w118 ⟨rfl, hb⟩; have n0_ := Aside0.mk (blk_below (g := gb150) (o := .cells #[.int .i64 a0_0, .int .i64 a0_1, .int .i64 a0_2, .int .i64 a0_3, .int .i64 a0_4, .int .i64 a0_5, .int .i32 a0_6, .slice A0_7 l0_7.length c0_7] 24 (0, 0)) (by (with_reducible repeat (first | refine blk_drewN ?_ _ | refine blk_drew ?_ | refine blk_alloc ?_ _)); exact BK150.out) hb); have n1_ := Aside0.mk (blk_below (g := gb169) (o := .cells #[.int .i64 t166, .int .i64 t167, .int .i64 t168] 70 (0, 0)) (by (with_reducible repeat (first | refine blk_drewN ?_ _ | refine blk_drew ?_ | refine blk_alloc ?_ _)); exact BK169.out) hb); have n2_ := Aside0.mk (below_step (by repeat (first | (with_reducible first | exact HB.out | apply below_alloc | apply pw_below_drewN | apply below_drew1 | refine below_set ?_ GE150.out | refine below_set ?_ GE169.out) | exact HB.out)) hb); clear BK150; clear BK169; clear HB; have BK150 := n0_; have BK169 := n1_; have HB := n2_; clear n0_ n1_ n2_; (try clear hb); (try clear hb2); (try clear hk); (try clear hi)))
                       repeat (go_quiet (first | (go_at_call 48; (with_reducible refine (jacquardref18_Bytes.calls kj92 (l0_7.length : Int) 1 t176 _ A109.out).mono ?_); rintro e w115 ⟨rfl, hb⟩; have n0_ := Aside0.mk (blk_below (g := gb150) (o := .cells #[.int .i64 a0_0, .int .i64 a0_1, .int .i64 a0_2, .int .i64 a0_3, .int .i64 a0_4, .int .i64 a0_5, .int .i32 a0_6, .slice A0_7 l0_7.length c0_7] 24 (0, 0)) (by (with_reducible repeat (first | refine blk_drewN ?_ _ | refine blk_drew ?_ | refine blk_alloc ?_ _)); exact BK150.out) hb); have n1_ := Aside0.mk (blk_below (g := gb169) (o := .cells #[.int .i64 t166, .int .i64 t167, .int .i64 t168] 70 (0, 0)) (by (with_reducible repeat (first | refine blk_drewN ?_ _ | refine blk_drew ?_ | refine blk_alloc ?_ _)); exact BK169.out) hb); have n2_ := Aside0.mk (below_step (by repeat (first | (with_reducible first | exact HB.out | apply below_alloc | apply pw_below_drewN | apply below_drew1 | refine below_set ?_ GE150.out | refine below_set ?_ GE169.out) | exact HB.out)) hb); clear BK150; clear BK169; clear HB; have BK150 := n0_; have BK169 := n1_; have HB := n2_; clear n0_ n1_ n2_; (try clear hb); (try clear hb2); (try clear hk); (try clear hi); have hcz116_0 : w115.cell? ⟨gb150, 0, none⟩ = some (.int .i64 a0_0) := (blk_cell BK150.out 0).trans rfl; have hcz116_1 : w115.cell? ⟨gb150, 1, none⟩ = some (.int .i64 a0_1) := (blk_cell BK150.out 1).trans rfl; have hcz116_2 : w115.cell? ⟨gb150, 2, none⟩ = some (.int .i64 a0_2) := (blk_cell BK150.out 2).trans rfl; have hcz116_3 : w115.cell? ⟨gb150, 3, none⟩ = some (.int .i64 a0_3) := (blk_cell BK150.out 3).trans rfl; have hcz116_4 : w115.cell? ⟨gb150, 4, none⟩ = some (.int .i64 a0_4) := (blk_cell BK150.out 4).trans rfl; have hcz116_5 : w115.cell? ⟨gb150, 5, none⟩ = some (.int .i64 a0_5) := (blk_cell BK150.out 5).trans rfl; have hcz116_6 : w115.cell? ⟨gb150, 6, none⟩ = some (.int .i32 a0_6) := (blk_cell BK150.out 6).trans rfl; have hcz116_7 : w115.cell? ⟨gb150, 7, none⟩ = some (.slice A0_7 l0_7.length c0_7) := (blk_cell BK150.out 7).trans rfl; have hfz116_0 := blk_frozen BK150.out 0; have hfz116_1 := blk_frozen BK150.out 1; have hfz116_2 := blk_frozen BK150.out 2; have hfz116_3 := blk_frozen BK150.out 3; have hfz116_4 := blk_frozen BK150.out 4; have hfz116_5 := blk_frozen BK150.out 5; have hfz116_6 := blk_frozen BK150.out 6; have hfz116_7 := blk_frozen BK150.out 7; have hcz117_0 : w115.cell? ⟨gb169, 0, none⟩ = some (.int .i64 t166) := (blk_cell BK169.out 0).trans rfl; have hcz117_1 : w115.cell? ⟨gb169, 1, none⟩ = some (.int .i64 t167) := (blk_cell BK169.out 1).trans rfl; have hcz117_2 : w115.cell? ⟨gb169, 2, none⟩ = some (.int .i64 t168) := (blk_cell BK169.out 2).trans rfl; have hfz117_0 := blk_frozen BK169.out 0; have hfz117_1 := blk_frozen BK169.out 1; have hfz117_2 := blk_frozen BK169.out 2) | (go_at_call 48; (with_reducible refine (jacquardref18_Bytes.calls kj92 (wrap64 (a0_6)) t166 t177 _ A111.out).mono ?_); rintro e w118 ⟨rfl, hb⟩; have n0_ := Aside0.mk (blk_below (g := gb150) (o := .cells #[.int .i64 a0_0, .int .i64 a0_1, .int .i64 a0_2, .int .i64 a0_3, .int .i64 a0_4, .int .i64 a0_5, .int .i32 a0_6, .slice A0_7 l0_7.length c0_7] 24 (0, 0)) (by (with_reducible repeat (first | refine blk_drewN ?_ _ | refine blk_drew ?_ | refine blk_alloc ?_ _)); exact BK150.out) hb); have n1_ := Aside0.mk (blk_below (g := gb169) (o := .cells #[.int .i64 t166, .int .i64 t167, .int .i64 t168] 70 (0, 0)) (by (with_reducible repeat (first | refine blk_drewN ?_ _ | refine blk_drew ?_ | refine blk_alloc ?_ _)); exact BK169.out) hb); have n2_ := Aside0.mk (below_step (by repeat (first | (with_reducible first | exact HB.out | apply below_alloc | apply pw_below_drewN | apply below_drew1 | refine below_set ?_ GE150.out | refine below_set ?_ GE169.out) | exact HB.out)) hb); clear BK150; clear BK169; clear HB; have BK150 := n0_; have BK169 := n1_; have HB := n2_; clear n0_ n1_ n2_; (try clear hb); (try clear hb2); (try clear hk); (try clear hi))); try go_wp2_with (first | (go_at_call 48; (with_reducible refine (jacquardref18_Bytes.calls kj92 (l0_7.length : Int) 1 t176 _ A109.out).mono ?_); rintro e w115 ⟨rfl, hb⟩; have n0_ := Aside0.mk (blk_below (g := gb150) (o := .cells #[.int .i64 a0_0, .int .i64 a0_1, .int .i64 a0_2, .int .i64 a0_3, .int .i64 a0_4, .int .i64 a0_5, .int .i32 a0_6, .slice A0_7 l0_7.length c0_7] 24 (0, 0)) (by (with_reducible repeat (first | refine blk_drewN ?_ _ | refine blk_drew ?_ | refine blk_alloc ?_ _)); exact BK150.out) hb); have n1_ := Aside0.mk (blk_below (g := gb169) (o := .cells #[.int .i64 t166, .int .i64 t167, .int .i64 t168] 70 (0, 0)) (by (with_reducible repeat (first | refine blk_drewN ?_ _ | refine blk_drew ?_ | refine blk_alloc ?_ _)); exact BK169.out) hb); have n2_ := Aside0.mk (below_step (by repeat (first | (with_reducible first | exact HB.out | apply below_alloc | apply pw_below_drewN | apply below_drew1 | refine below_set ?_ GE150.out | refine below_set ?_ GE169.out) | exact HB.out)) hb); clear BK150; clear BK169; clear HB; have BK150 := n0_; have BK169 := n1_; have HB := n2_; clear n0_ n1_ n2_; (try clear hb); (try clear hb2); (try clear hk); (try clear hi); have hcz116_0 : w115.cell? ⟨gb150, 0, none⟩ = some (.int .i64 a0_0) := (blk_cell BK150.out 0).trans rfl; have hcz116_1 : w115.cell? ⟨gb150, 1, none⟩ = some (.int .i64 a0_1) := (blk_cell BK150.out 1).trans rfl; have hcz116_2 : w115.cell? ⟨gb150, 2, none⟩ = some (.int .i64 a0_2) := (blk_cell BK150.out 2).trans rfl; have hcz116_3 : w115.cell? ⟨gb150, 3, none⟩ = some (.int .i64 a0_3) := (blk_cell BK150.out 3).trans rfl; have hcz116_4 : w115.cell? ⟨gb150, 4, none⟩ = some (.int .i64 a0_4) := (blk_cell BK150.out 4).trans rfl; have hcz116_5 : w115.cell? ⟨gb150, 5, none⟩ = some (.int .i64 a0_5) := (blk_cell BK150.out 5).trans rfl; have hcz116_6 : w115.cell? ⟨gb150, 6, none⟩ = some (.int .i32 a0_6) := (blk_cell BK150.out 6).trans rfl; have hcz116_7 : w115.cell? ⟨gb150, 7, none⟩ = some (.slice A0_7 l0_7.length c0_7) := (blk_cell BK150.out 7).trans rfl; have hfz116_0 := blk_frozen BK150.out 0; have hfz116_1 := blk_frozen BK150.out 1; have hfz116_2 := blk_frozen BK150.out 2; have hfz116_3 := blk_frozen BK150.out 3; have hfz116_4 := blk_frozen BK150.out 4; have hfz116_5 := blk_frozen BK150.out 5; have hfz116_6 := blk_frozen BK150.out 6; have hfz116_7 := blk_frozen BK150.out 7; have hcz117_0 : w115.cell? ⟨gb169, 0, none⟩ = some (.int .i64 t166) := (blk_cell BK169.out 0).trans rfl; have hcz117_1 : w115.cell? ⟨gb169, 1, none⟩ = some (.int .i64 t167) := (blk_cell BK169.out 1).trans rfl; have hcz117_2 : w115.cell? ⟨gb169, 2, none⟩ = some (.int .i64 t168) := (blk_cell BK169.out 2).trans rfl; have hfz117_0 := blk_frozen BK169.out 0; have hfz117_1 := blk_frozen BK169.out 1; have hfz117_2 := blk_frozen BK169.out 2) | (go_at_call 48; (with_reducible refine (jacquardref18_Bytes.calls kj92 (wrap64 (a0_6)) t166 t177 _ A111.out).mono ?_); rintro e w118 ⟨rfl, hb⟩; have n0_ := Aside0.mk (blk_below (g := gb150) (o := .cells #[.int .i64 a0_0, .int .i64 a0_1, .int .i64 a0_2, .int .i64 a0_3, .int .i64 a0_4, .int .i64 a0_5, .int .i32 a0_6, .slice A0_7 l0_7.length c0_7] 24 (0, 0)) (by (with_reducible repeat (first | refine blk_drewN ?_ _ | refine blk_drew ?_ | refine blk_alloc ?_ _)); exact BK150.out) hb); have n1_ := Aside0.mk (blk_below (g := gb169) (o := .cells #[.int .i64 t166, .int .i64 t167, .int .i64 t168] 70 (0, 0)) (by (with_reducible repeat (first | refine blk_drewN ?_ _ | refine blk_drew ?_ | refine blk_alloc ?_ _)); exact BK169.out) hb); have n2_ := Aside0.mk (below_step (by repeat (first | (with_reducible first | exact HB.out | apply below_alloc | apply pw_below_drewN | apply below_drew1 | refine below_set ?_ GE150.out | refine below_set ?_ GE169.out) | exact HB.out)) hb); clear BK150; clear BK169; clear HB; have BK150 := n0_; have BK169 := n1_; have HB := n2_; clear n0_ n1_ n2_; (try clear hb); (try clear hb2); (try clear hk); (try clear hi))))
                       go_ret2
                       exact ⟨by first | rfl | (simp [errW_none, errW_some] <;> rfl) | (simp only [← hji44]; first | rfl | (simp [errW_none, errW_some] <;> rfl)) | (simp [*, errW_none, errW_some] <;> rfl), by repeat (first | (with_reducible first | exact HB.out | apply below_alloc | apply pw_below_drewN | apply below_drew1 | refine below_set ?_ GE150.out | refine below_set ?_ GE169.out) | exact HB.out)⟩
                      ·rw [if_neg c112] at H
                       exact absurd H (by simp)
                     ·rw [if_neg c110] at H
                      exact absurd H (by simp)
                    ·rw [if_neg c108] at H
                     have c108b0 : (a0_0 == 28) = false := beq_eq_false_iff_ne.mpr c108
                     have c108b1 : (a0_0 != 28) = true := bne_iff_ne.mpr c108
                     replace H := Option.bind_eq_some_iff.mp H
                     obtain ⟨t178, A1190, H⟩ := H
                     replace H : (if x5_4.size + t178.size ≤ 9223372036854775807 then (some (x5_4 ++ t178, 0)) else (none)) = some (r1, r2) := H
                     have A119 := Aside0.mk A1190
                     clear A1190
                     by_cases c120 : x5_4.size + t178.size ≤ 9223372036854775807
                     ·rw [if_pos c120] at H
                      have c120b0 := eq_true c120
                      have c120b1 : decide (x5_4.size + t178.size ≤ 9223372036854775807) = true := decide_eq_true c120
                      try have c120b2 : (9223372036854775807 < x5_4.size + t178.size) = False := eq_false (Nat.not_lt.2 c120)
                      simp only [Option.some.injEq, Prod.mk.injEq] at H
                      obtain ⟨rfl, rfl⟩ := H
                      have hnb121 := NB150_169.out
                      have hnc121 := NB169_150.out
                      have hcz122_0 : wc.cell? ⟨gb150, 0, none⟩ = some (.int .i64 a0_0) := (blk_cell BK150.out 0).trans rfl
                      have hcz122_1 : wc.cell? ⟨gb150, 1, none⟩ = some (.int .i64 a0_1) := (blk_cell BK150.out 1).trans rfl
                      have hcz122_2 : wc.cell? ⟨gb150, 2, none⟩ = some (.int .i64 a0_2) := (blk_cell BK150.out 2).trans rfl
                      have hcz122_3 : wc.cell? ⟨gb150, 3, none⟩ = some (.int .i64 a0_3) := (blk_cell BK150.out 3).trans rfl
                      have hcz122_4 : wc.cell? ⟨gb150, 4, none⟩ = some (.int .i64 a0_4) := (blk_cell BK150.out 4).trans rfl
                      have hcz122_5 : wc.cell? ⟨gb150, 5, none⟩ = some (.int .i64 a0_5) := (blk_cell BK150.out 5).trans rfl
                      have hcz122_6 : wc.cell? ⟨gb150, 6, none⟩ = some (.int .i32 a0_6) := (blk_cell BK150.out 6).trans rfl
                      have hcz122_7 : wc.cell? ⟨gb150, 7, none⟩ = some (.slice A0_7 l0_7.length c0_7) := (blk_cell BK150.out 7).trans rfl
                      have hfz122_0 := blk_frozen BK150.out 0
                      have hfz122_1 := blk_frozen BK150.out 1
                      have hfz122_2 := blk_frozen BK150.out 2
                      have hfz122_3 := blk_frozen BK150.out 3
                      have hfz122_4 := blk_frozen BK150.out 4
                      have hfz122_5 := blk_frozen BK150.out 5
                      have hfz122_6 := blk_frozen BK150.out 6
                      have hfz122_7 := blk_frozen BK150.out 7
                      have hcz123_0 : wc.cell? ⟨gb169, 0, none⟩ = some (.int .i64 t166) := (blk_cell BK169.out 0).trans rfl
                      have hcz123_1 : wc.cell? ⟨gb169, 1, none⟩ = some (.int .i64 t167) := (blk_cell BK169.out 1).trans rfl
                      have hcz123_2 : wc.cell? ⟨gb169, 2, none⟩ = some (.int .i64 t168) := (blk_cell BK169.out 2).trans rfl
                      have hfz123_0 := blk_frozen BK169.out 0
                      have hfz123_1 := blk_frozen BK169.out 1
                      have hfz123_2 := blk_frozen BK169.out 2
                      go_wp2_with (first | (go_at_call 48; (with_reducible refine (jacquardref18_Bytes.calls kj92 (wrap64 (a0_6)) t166 t178 _ A119.out).mono ?_); rintro e w124 ⟨rfl, hb⟩; have n0_ := Aside0.mk (blk_below (g := gb150) (o := .cells #[.int .i64 a0_0, .int .i64 a0_1, .int .i64 a0_2, .int .i64 a0_3, .int .i64 a0_4, .int .i64 a0_5, .int .i32 a0_6, .slice A0_7 l0_7.length c0_7] 24 (0, 0)) (by (with_reducible repeat (first | refine blk_drewN ?_ _ | refine blk_drew ?_ | refine blk_alloc ?_ _)); exact BK150.out) hb); have n1_ := Aside0.mk (blk_below (g := gb169) (o := .cells #[.int .i64 t166, .int .i64 t167, .int .i64 t168] 70 (0, 0)) (by (with_reducible repeat (first | refine blk_drewN ?_ _ | refine blk_drew ?_ | refine blk_alloc ?_ _)); exact BK169.out) hb); have n2_ := Aside0.mk (below_step (by repeat (first | (with_reducible first | exact HB.out | apply below_alloc | apply pw_below_drewN | apply below_drew1 | refine below_set ?_ GE150.out | refine below_set ?_ GE169.out) | exact HB.out)) hb); clear BK150; clear BK169; clear HB; have BK150 := n0_; have BK169 := n1_; have HB := n2_; clear n0_ n1_ n2_; (try clear hb); (try clear hb2); (try clear hk); (try clear hi)))
                      repeat (go_quiet (first | (go_at_call 48; (with_reducible refine (jacquardref18_Bytes.calls kj92 (wrap64 (a0_6)) t166 t178 _ A119.out).mono ?_); rintro e w124 ⟨rfl, hb⟩; have n0_ := Aside0.mk (blk_below (g := gb150) (o := .cells #[.int .i64 a0_0, .int .i64 a0_1, .int .i64 a0_2, .int .i64 a0_3, .int .i64 a0_4, .int .i64 a0_5, .int .i32 a0_6, .slice A0_7 l0_7.length c0_7] 24 (0, 0)) (by (with_reducible repeat (first | refine blk_drewN ?_ _ | refine blk_drew ?_ | refine blk_alloc ?_ _)); exact BK150.out) hb); have n1_ := Aside0.mk (blk_below (g := gb169) (o := .cells #[.int .i64 t166, .int .i64 t167, .int .i64 t168] 70 (0, 0)) (by (with_reducible repeat (first | refine blk_drewN ?_ _ | refine blk_drew ?_ | refine blk_alloc ?_ _)); exact BK169.out) hb); have n2_ := Aside0.mk (below_step (by repeat (first | (with_reducible first | exact HB.out | apply below_alloc | apply pw_below_drewN | apply below_drew1 | refine below_set ?_ GE150.out | refine below_set ?_ GE169.out) | exact HB.out)) hb); clear BK150; clear BK169; clear HB; have BK150 := n0_; have BK169 := n1_; have HB := n2_; clear n0_ n1_ n2_; (try clear hb); (try clear hb2); (try clear hk); (try clear hi))); try go_wp2_with (first | (go_at_call 48; (with_reducible refine (jacquardref18_Bytes.calls kj92 (wrap64 (a0_6)) t166 t178 _ A119.out).mono ?_); rintro e w124 ⟨rfl, hb⟩; have n0_ := Aside0.mk (blk_below (g := gb150) (o := .cells #[.int .i64 a0_0, .int .i64 a0_1, .int .i64 a0_2, .int .i64 a0_3, .int .i64 a0_4, .int .i64 a0_5, .int .i32 a0_6, .slice A0_7 l0_7.length c0_7] 24 (0, 0)) (by (with_reducible repeat (first | refine blk_drewN ?_ _ | refine blk_drew ?_ | refine blk_alloc ?_ _)); exact BK150.out) hb); have n1_ := Aside0.mk (blk_below (g := gb169) (o := .cells #[.int .i64 t166, .int .i64 t167, .int .i64 t168] 70 (0, 0)) (by (with_reducible repeat (first | refine blk_drewN ?_ _ | refine blk_drew ?_ | refine blk_alloc ?_ _)); exact BK169.out) hb); have n2_ := Aside0.mk (below_step (by repeat (first | (with_reducible first | exact HB.out | apply below_alloc | apply pw_below_drewN | apply below_drew1 | refine below_set ?_ GE150.out | refine below_set ?_ GE169.out) | exact HB.out)) hb); clear BK150; clear BK169; clear HB; have BK150 := n0_; have BK169 := n1_; have HB := n2_; clear n0_ n1_ n2_; (try clear hb); (try clear hb2); (try clear hk); (try clear hi))))
                      go_ret2
                      exact ⟨by first | rfl | (simp [errW_none, errW_some] <;> rfl) | (simp only [← hji44]; first | rfl | (simp [errW_none, errW_some] <;> rfl)) | (simp [*, errW_none, errW_some] <;> rfl), by repeat (first | (with_reducible first | exact HB.out | apply below_alloc | apply pw_below_drewN | apply below_drew1 | refine below_set ?_ GE150.out | refine below_set ?_ GE169.out) | exact HB.out)⟩
                     ·rw [if_neg c120] at H
                      exact absurd H (by simp)
             ·rw [if_neg c46] at H
              exact absurd H (by simp)
            ·rw [if_neg c45] at H
             exact absurd H (by simp)
 ·replace c3 := Bool.eq_false_iff.mpr c3
  subst c3
  have H1 : (some ((⟨#[]⟩ : ByteArray), 30)) = some (r1, r2) := by rw [if_neg (show ¬ (false = true) by decide)] at H; exact H
  clear H
  have H := H1
  clear H1
  simp only [Option.some.injEq, Prod.mk.injEq] at H
  obtain ⟨rfl, rfl⟩ := H
  go_enter Tryd.func18, Tryd.ntmps18
  go_wp2_with (first | ((with_reducible refine gate_dst (N := 1) rfl ?_); refine box_event ?hg (N := 1) ?hd (cs := #[.int .i64 a0_0, .int .i64 a0_1, .int .i64 a0_2, .int .i64 a0_3, .int .i64 a0_4, .int .i64 a0_5, .int .i32 a0_6, .slice A0_7 l0_7.length c0_7]) (t := 24) ?hr ?_; (case hd => rfl); (case hg => rfl); (case hr => first | (go_simp; done) | (go_simp; rfl)); intro gb150 hg w125 hbox hb; have n0_ := Aside0.mk (below_step (by repeat (first | (with_reducible first | exact HB.out | apply below_alloc | apply pw_below_drewN | apply below_drew1) | exact HB.out)) hb); have n1_ := Aside0.mk (hbox); have n2_ := Aside0.mk ((by rw [hg]; exact (below_size (by repeat (first | (with_reducible first | exact HB.out | apply below_alloc | apply pw_below_drewN | apply below_drew1) | exact HB.out))) : w.heap.size ≤ gb150)); have n3_ := Aside0.mk ((by rw [hg]; exact (below_size (by repeat (first | (with_reducible first | exact HB.out | apply below_alloc | apply pw_below_drewN | apply below_drew1) | exact HB.out))) : w.heap.size ≤ gb150)); clear HB; have HB := n0_; have BK150 := n1_; have GW150 := n2_; have GE150 := n3_; clear n0_ n1_ n2_ n3_; clear hb hbox hg; have hcz126_0 : w125.cell? ⟨gb150, 0, none⟩ = some (.int .i64 a0_0) := (blk_cell BK150.out 0).trans rfl; have hcz126_1 : w125.cell? ⟨gb150, 1, none⟩ = some (.int .i64 a0_1) := (blk_cell BK150.out 1).trans rfl; have hcz126_2 : w125.cell? ⟨gb150, 2, none⟩ = some (.int .i64 a0_2) := (blk_cell BK150.out 2).trans rfl; have hcz126_3 : w125.cell? ⟨gb150, 3, none⟩ = some (.int .i64 a0_3) := (blk_cell BK150.out 3).trans rfl; have hcz126_4 : w125.cell? ⟨gb150, 4, none⟩ = some (.int .i64 a0_4) := (blk_cell BK150.out 4).trans rfl; have hcz126_5 : w125.cell? ⟨gb150, 5, none⟩ = some (.int .i64 a0_5) := (blk_cell BK150.out 5).trans rfl; have hcz126_6 : w125.cell? ⟨gb150, 6, none⟩ = some (.int .i32 a0_6) := (blk_cell BK150.out 6).trans rfl; have hcz126_7 : w125.cell? ⟨gb150, 7, none⟩ = some (.slice A0_7 l0_7.length c0_7) := (blk_cell BK150.out 7).trans rfl; have hfz126_0 := blk_frozen BK150.out 0; have hfz126_1 := blk_frozen BK150.out 1; have hfz126_2 := blk_frozen BK150.out 2; have hfz126_3 := blk_frozen BK150.out 3; have hfz126_4 := blk_frozen BK150.out 4; have hfz126_5 := blk_frozen BK150.out 5; have hfz126_6 := blk_frozen BK150.out 6; have hfz126_7 := blk_frozen BK150.out 7) | (go_at_call 46; (with_reducible refine (jacquardref18_Shape.calls k a0_0 a0_1 a0_2 a0_3 a0_4 a0_5 a0_6 _ _ l0_7 false _ ?side1 ?side2 A2.out).mono ?_); (case side1 => repeat (first | exact (Kd.C_below HR0_7.out HB.out) | (with_reducible refine Kd.C_alloc ?_ _) | (with_reducible refine Kd.C_drewN ?_ _) | (with_reducible refine Kd.C_drew ?_))); (case side2 => exact HC0_7.out); rintro e w127 ⟨rfl, hb⟩; have n0_ := Aside0.mk (blk_below (g := gb150) (o := .cells #[.int .i64 a0_0, .int .i64 a0_1, .int .i64 a0_2, .int .i64 a0_3, .int .i64 a0_4, .int .i64 a0_5, .int .i32 a0_6, .slice A0_7 l0_7.length c0_7] 24 (0, 0)) (by (with_reducible repeat (first | refine blk_drewN ?_ _ | refine blk_drew ?_ | refine blk_alloc ?_ _)); exact BK150.out) hb); have n1_ := Aside0.mk (below_step (by repeat (first | (with_reducible first | exact HB.out | apply below_alloc | apply pw_below_drewN | apply below_drew1 | refine below_set ?_ GE150.out) | exact HB.out)) hb); clear BK150; clear HB; have BK150 := n0_; have HB := n1_; clear n0_ n1_; (try clear hb); (try clear hb2); (try clear hk); (try clear hi)))
  repeat (go_quiet (first | ((with_reducible refine gate_dst (N := 1) rfl ?_); refine box_event ?hg (N := 1) ?hd (cs := #[.int .i64 a0_0, .int .i64 a0_1, .int .i64 a0_2, .int .i64 a0_3, .int .i64 a0_4, .int .i64 a0_5, .int .i32 a0_6, .slice A0_7 l0_7.length c0_7]) (t := 24) ?hr ?_; (case hd => rfl); (case hg => rfl); (case hr => first | (go_simp; done) | (go_simp; rfl)); intro gb150 hg w125 hbox hb; have n0_ := Aside0.mk (below_step (by repeat (first | (with_reducible first | exact HB.out | apply below_alloc | apply pw_below_drewN | apply below_drew1) | exact HB.out)) hb); have n1_ := Aside0.mk (hbox); have n2_ := Aside0.mk ((by rw [hg]; exact (below_size (by repeat (first | (with_reducible first | exact HB.out | apply below_alloc | apply pw_below_drewN | apply below_drew1) | exact HB.out))) : w.heap.size ≤ gb150)); have n3_ := Aside0.mk ((by rw [hg]; exact (below_size (by repeat (first | (with_reducible first | exact HB.out | apply below_alloc | apply pw_below_drewN | apply below_drew1) | exact HB.out))) : w.heap.size ≤ gb150)); clear HB; have HB := n0_; have BK150 := n1_; have GW150 := n2_; have GE150 := n3_; clear n0_ n1_ n2_ n3_; clear hb hbox hg; have hcz126_0 : w125.cell? ⟨gb150, 0, none⟩ = some (.int .i64 a0_0) := (blk_cell BK150.out 0).trans rfl; have hcz126_1 : w125.cell? ⟨gb150, 1, none⟩ = some (.int .i64 a0_1) := (blk_cell BK150.out 1).trans rfl; have hcz126_2 : w125.cell? ⟨gb150, 2, none⟩ = some (.int .i64 a0_2) := (blk_cell BK150.out 2).trans rfl; have hcz126_3 : w125.cell? ⟨gb150, 3, none⟩ = some (.int .i64 a0_3) := (blk_cell BK150.out 3).trans rfl; have hcz126_4 : w125.cell? ⟨gb150, 4, none⟩ = some (.int .i64 a0_4) := (blk_cell BK150.out 4).trans rfl; have hcz126_5 : w125.cell? ⟨gb150, 5, none⟩ = some (.int .i64 a0_5) := (blk_cell BK150.out 5).trans rfl; have hcz126_6 : w125.cell? ⟨gb150, 6, none⟩ = some (.int .i32 a0_6) := (blk_cell BK150.out 6).trans rfl; have hcz126_7 : w125.cell? ⟨gb150, 7, none⟩ = some (.slice A0_7 l0_7.length c0_7) := (blk_cell BK150.out 7).trans rfl; have hfz126_0 := blk_frozen BK150.out 0; have hfz126_1 := blk_frozen BK150.out 1; have hfz126_2 := blk_frozen BK150.out 2; have hfz126_3 := blk_frozen BK150.out 3; have hfz126_4 := blk_frozen BK150.out 4; have hfz126_5 := blk_frozen BK150.out 5; have hfz126_6 := blk_frozen BK150.out 6; have hfz126_7 := blk_frozen BK150.out 7) | (go_at_call 46; (with_reducible refine (jacquardref18_Shape.calls k a0_0 a0_1 a0_2 a0_3 a0_4 a0_5 a0_6 _ _ l0_7 false _ ?side1 ?side2 A2.out).mono ?_); (case side1 => repeat (first | exact (Kd.C_below HR0_7.out HB.out) | (with_reducible refine Kd.C_alloc ?_ _) | (with_reducible refine Kd.C_drewN ?_ _) | (with_reducible refine Kd.C_drew ?_))); (case side2 => exact HC0_7.out); rintro e w127 ⟨rfl, hb⟩; have n0_ := Aside0.mk (blk_below (g := gb150) (o := .cells #[.int .i64 a0_0, .int .i64 a0_1, .int .i64 a0_2, .int .i64 a0_3, .int .i64 a0_4, .int .i64 a0_5, .int .i32 a0_6, .slice A0_7 l0_7.length c0_7] 24 (0, 0)) (by (with_reducible repeat (first | refine blk_drewN ?_ _ | refine blk_drew ?_ | refine blk_alloc ?_ _)); exact BK150.out) hb); have n1_ := Aside0.mk (below_step (by repeat (first | (with_reducible first | exact HB.out | apply below_alloc | apply pw_below_drewN | apply below_drew1 | refine below_set ?_ GE150.out) | exact HB.out)) hb); clear BK150; clear HB; have BK150 := n0_; have HB := n1_; clear n0_ n1_; (try clear hb); (try clear hb2); (try clear hk); (try clear hi))); try go_wp2_with (first | ((with_reducible refine gate_dst (N := 1) rfl ?_); refine box_event ?hg (N := 1) ?hd (cs := #[.int .i64 a0_0, .int .i64 a0_1, .int .i64 a0_2, .int .i64 a0_3, .int .i64 a0_4, .int .i64 a0_5, .int .i32 a0_6, .slice A0_7 l0_7.length c0_7]) (t := 24) ?hr ?_; (case hd => rfl); (case hg => rfl); (case hr => first | (go_simp; done) | (go_simp; rfl)); intro gb150 hg w125 hbox hb; have n0_ := Aside0.mk (below_step (by repeat (first | (with_reducible first | exact HB.out | apply below_alloc | apply pw_below_drewN | apply below_drew1) | exact HB.out)) hb); have n1_ := Aside0.mk (hbox); have n2_ := Aside0.mk ((by rw [hg]; exact (below_size (by repeat (first | (with_reducible first | exact HB.out | apply below_alloc | apply pw_below_drewN | apply below_drew1) | exact HB.out))) : w.heap.size ≤ gb150)); have n3_ := Aside0.mk ((by rw [hg]; exact (below_size (by repeat (first | (with_reducible first | exact HB.out | apply below_alloc | apply pw_below_drewN | apply below_drew1) | exact HB.out))) : w.heap.size ≤ gb150)); clear HB; have HB := n0_; have BK150 := n1_; have GW150 := n2_; have GE150 := n3_; clear n0_ n1_ n2_ n3_; clear hb hbox hg; have hcz126_0 : w125.cell? ⟨gb150, 0, none⟩ = some (.int .i64 a0_0) := (blk_cell BK150.out 0).trans rfl; have hcz126_1 : w125.cell? ⟨gb150, 1, none⟩ = some (.int .i64 a0_1) := (blk_cell BK150.out 1).trans rfl; have hcz126_2 : w125.cell? ⟨gb150, 2, none⟩ = some (.int .i64 a0_2) := (blk_cell BK150.out 2).trans rfl; have hcz126_3 : w125.cell? ⟨gb150, 3, none⟩ = some (.int .i64 a0_3) := (blk_cell BK150.out 3).trans rfl; have hcz126_4 : w125.cell? ⟨gb150, 4, none⟩ = some (.int .i64 a0_4) := (blk_cell BK150.out 4).trans rfl; have hcz126_5 : w125.cell? ⟨gb150, 5, none⟩ = some (.int .i64 a0_5) := (blk_cell BK150.out 5).trans rfl; have hcz126_6 : w125.cell? ⟨gb150, 6, none⟩ = some (.int .i32 a0_6) := (blk_cell BK150.out 6).trans rfl; have hcz126_7 : w125.cell? ⟨gb150, 7, none⟩ = some (.slice A0_7 l0_7.length c0_7) := (blk_cell BK150.out 7).trans rfl; have hfz126_0 := blk_frozen BK150.out 0; have hfz126_1 := blk_frozen BK150.out 1; have hfz126_2 := blk_frozen BK150.out 2; have hfz126_3 := blk_frozen BK150.out 3; have hfz126_4 := blk_frozen BK150.out 4; have hfz126_5 := blk_frozen BK150.out 5; have hfz126_6 := blk_frozen BK150.out 6; have hfz126_7 := blk_frozen BK150.out 7) | (go_at_call 46; (with_reducible refine (jacquardref18_Shape.calls k a0_0 a0_1 a0_2 a0_3 a0_4 a0_5 a0_6 _ _ l0_7 false _ ?side1 ?side2 A2.out).mono ?_); (case side1 => repeat (first | exact (Kd.C_below HR0_7.out HB.out) | (with_reducible refine Kd.C_alloc ?_ _) | (with_reducible refine Kd.C_drewN ?_ _) | (with_reducible refine Kd.C_drew ?_))); (case side2 => exact HC0_7.out); rintro e w127 ⟨rfl, hb⟩; have n0_ := Aside0.mk (blk_below (g := gb150) (o := .cells #[.int .i64 a0_0, .int .i64 a0_1, .int .i64 a0_2, .int .i64 a0_3, .int .i64 a0_4, .int .i64 a0_5, .int .i32 a0_6, .slice A0_7 l0_7.length c0_7] 24 (0, 0)) (by (with_reducible repeat (first | refine blk_drewN ?_ _ | refine blk_drew ?_ | refine blk_alloc ?_ _)); exact BK150.out) hb); have n1_ := Aside0.mk (below_step (by repeat (first | (with_reducible first | exact HB.out | apply below_alloc | apply pw_below_drewN | apply below_drew1 | refine below_set ?_ GE150.out) | exact HB.out)) hb); clear BK150; clear HB; have BK150 := n0_; have HB := n1_; clear n0_ n1_; (try clear hb); (try clear hb2); (try clear hk); (try clear hi))))
  go_ret2
  exact ⟨by first | rfl | (simp [errW_none, errW_some] <;> rfl) | (simp [*, errW_none, errW_some] <;> rfl), by repeat (first | (with_reducible first | exact HB.out | apply below_alloc | apply pw_below_drewN | apply below_drew1 | refine below_set ?_ GE150.out) | exact HB.out)⟩

end Go.Proofs.YtmoplcchiadlpaaDoor.S
