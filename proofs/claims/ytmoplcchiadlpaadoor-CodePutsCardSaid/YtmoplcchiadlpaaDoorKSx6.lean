import Derived.Test.YtmoplcchiadlpaaDoorKSx0
import Derived.Test.YtmoplcchiadlpaaDoorKSx1
import Derived.Test.YtmoplcchiadlpaaDoorKSx2
import Derived.Test.YtmoplcchiadlpaaDoorKSx3
import Derived.Test.YtmoplcchiadlpaaDoorK1
import Derived.Test.YtmoplcchiadlpaaDoorKWTab
namespace Go.Proofs.YtmoplcchiadlpaaDoor.S
open Go.RowKit Go.Proofs.YtmoplcchiadlpaaDoorW.PrintWords Go.Proofs.YtmoplcchiadlpaaDoorW.PrintLast Go.Proofs.YtmoplcchiadlpaaDoorW.PrintMore
attribute [local go_sem] max2_int min2_int max_two min_two max_three min_three max_four min_four   -- for this text's walks alone
set_option linter.unusedVariables false
set_option linter.unusedSimpArgs false

/-! ### jacquardref18_Text: function 23 -/
mutual
def jacquardref18_Text.j0 : Nat → ByteArray → Bool → Int → Int → Int → Int → Int → Int → Int → List Int → Option (ByteArray)
 | 0, _, _, _, _, _, _, _, _, _, _ => none
 | k + 1, x3, x24, x180000, x180001, x180002, x180003, x180004, x180005, x180006, x180007 => if x24 = true then (if x3.size + 2 ≤ 9223372036854775807 then (jacquardref18_Text.j1 k (x3 ++ (⟨#[46, 108]⟩ : ByteArray)) x180000 x180001 x180002 x180003 x180004 x180005 x180006 x180007) else (none)) else (jacquardref18_Text.j1 k x3 x180000 x180001 x180002 x180003 x180004 x180005 x180006 x180007)
def jacquardref18_Text.j1 : Nat → ByteArray → Int → Int → Int → Int → Int → Int → Int → List Int → Option (ByteArray)
 | 0, _, _, _, _, _, _, _, _, _ => none
 | k + 1, x3, x180000, x180001, x180002, x180003, x180004, x180005, x180006, x180007 => (jacquardref18_Regs.f k x180000 x180001 x180002 x180003 x180004 x180005 x180006 x180007).bind fun t183 => (jacquardref18_Text.l0 k x3 t183 0 x180000 x180001 x180002 x180003 x180004 x180005 x180006 x180007)
def jacquardref18_Text.l0 : Nat → ByteArray → List Int → Int → Int → Int → Int → Int → Int → Int → Int → List Int → Option (ByteArray)
 | 0, _, _, _, _, _, _, _, _, _, _, _ => none
 | k + 1, x3, x5, x6, x180000, x180001, x180002, x180003, x180004, x180005, x180006, x180007 => if x6 < (x5.length : Int) then (if x3.size + 2 ≤ 9223372036854775807 then (if 0 ≤ x6 then ((jacquardref18_whole.f k (rd x5 x6)).bind fun t187 => (if (x3 ++ (⟨#[32, 114]⟩ : ByteArray)).size + t187.size ≤ 9223372036854775807 then (jacquardref18_Text.l0 k ((x3 ++ (⟨#[32, 114]⟩ : ByteArray)) ++ t187) x5 (wrap64 (x6 + 1)) x180000 x180001 x180002 x180003 x180004 x180005 x180006 x180007) else (none))) else (none)) else (none)) else ((jacquardref18_Fields.f k x180000).bind fun t188 => (if 0 ≤ (wrap64 ((t188.size : Int) - 1)) then (if (wrap64 ((t188.size : Int) - 1)) < (t188.size : Int) then (if (bt t188 (wrap64 ((t188.size : Int) - 1))) = 101 then (if x180002 = 1 then (if x3.size + 3 ≤ 9223372036854775807 then (some (x3 ++ (⟨#[32, 114, 48]⟩ : ByteArray))) else (none)) else (some x3)) else (if (bt t188 (wrap64 ((t188.size : Int) - 1))) = 116 then (jacquardref18_Text.l1 k x3 0 x180000 x180001 x180002 x180003 x180004 x180005 x180006 x180007) else (if x180000 = 28 then (if x3.size + 1 ≤ 9223372036854775807 then ((jacquardref18_digits.f k (x180007.length : Int)).bind fun t191 => (if (x3 ++ (⟨#[32]⟩ : ByteArray)).size + t191.size ≤ 9223372036854775807 then (if ((x3 ++ (⟨#[32]⟩ : ByteArray)) ++ t191).size + 1 ≤ 9223372036854775807 then ((jacquardref18_digits.f k (wrap64 (x180006))).bind fun t192 => (if (((x3 ++ (⟨#[32]⟩ : ByteArray)) ++ t191) ++ (⟨#[32]⟩ : ByteArray)).size + t192.size ≤ 9223372036854775807 then (some ((((x3 ++ (⟨#[32]⟩ : ByteArray)) ++ t191) ++ (⟨#[32]⟩ : ByteArray)) ++ t192)) else (none))) else (none)) else (none))) else (none)) else ((jacquardref18_Of.f (bt t188 (wrap64 ((t188.size : Int) - 1))) false).bind fun bt193 => (if bt193.1 > 0 then (if x3.size + 1 ≤ 9223372036854775807 then ((jacquardref18_digits.f k (wrap64 (x180006))).bind fun t196 => (if (x3 ++ (⟨#[32]⟩ : ByteArray)).size + t196.size ≤ 9223372036854775807 then (some ((x3 ++ (⟨#[32]⟩ : ByteArray)) ++ t196)) else (none))) else (none)) else (some x3)))))) else (none)) else (none)))
def jacquardref18_Text.l1 : Nat → ByteArray → Int → Int → Int → Int → Int → Int → Int → Int → List Int → Option (ByteArray)
 | 0, _, _, _, _, _, _, _, _, _, _ => none
 | k + 1, x3, x9, x180000, x180001, x180002, x180003, x180004, x180005, x180006, x180007 => if x9 < (x180007.length : Int) then (if x3.size + 1 ≤ 9223372036854775807 then (if 0 ≤ x9 then ((jacquardref18_whole.f k (rd x180007 x9)).bind fun t190 => (if (x3 ++ (⟨#[32]⟩ : ByteArray)).size + t190.size ≤ 9223372036854775807 then (jacquardref18_Text.l1 k ((x3 ++ (⟨#[32]⟩ : ByteArray)) ++ t190) (wrap64 (x9 + 1)) x180000 x180001 x180002 x180003 x180004 x180005 x180006 x180007) else (none))) else (none)) else (none)) else (some x3)
end
def jacquardref18_Text.f (k : Nat) (a0_0 : Int) (a0_1 : Int) (a0_2 : Int) (a0_3 : Int) (a0_4 : Int) (a0_5 : Int) (a0_6 : Int) (l0_7 : List Int) : Option (ByteArray) := (jacquardref18_Shape.f k a0_0 a0_1 a0_2 a0_3 a0_4 a0_5 a0_6 l0_7).bind fun t180 => (if t180 = true then ((jacquardref18_Name.f a0_0).bind fun t181 => ((jacquardref18_has.f k a0_0 98).bind fun t182 => (if t182 = true then (jacquardref18_Text.j0 k t181 (a0_2 == 1) a0_0 a0_1 a0_2 a0_3 a0_4 a0_5 a0_6 l0_7) else (jacquardref18_Text.j0 k t181 false a0_0 a0_1 a0_2 a0_3 a0_4 a0_5 a0_6 l0_7)))) else (some (⟨#[]⟩ : ByteArray)))
def jacquardref18_Text.T23 : Bool × List (List Nat × List Nat) := (true, [([], []), ([0], [0]), ([], []), ([2], [2]), ([3], [3]), ([4], [4]), ([1, 5], [1, 5]), ([6], [6]), ([], []), ([8], [8]), ([9], [9]), ([10, 5], [10]), ([7, 11], [7, 11]), ([12, 11, 0, 1, 2, 3, 4, 5, 6, 7, 8, 9, 10, 11, 12], [0, 12])])
def jacquardref18_Text.B23 : List Nat := [0, 1, 0, 4, 12, 28, 63, 127, 0, 256, 768, 1852, 4095, 8191]
theorem jacquardref18_Text.tab23 : rtab .any (opsOf Tryd.f23 23) = jacquardref18_Text.T23 := by kernel_rfl
theorem jacquardref18_Text.bits23 : waitsOk jacquardref18_Text.T23.2 jacquardref18_Text.B23 = true := by kernel_rfl
set_option maxHeartbeats 8000000 in
set_option maxRecDepth 100000 in
theorem jacquardref18_Text.calls (k : Nat) (a0_0 : Int) (a0_1 : Int) (a0_2 : Int) (a0_3 : Int) (a0_4 : Int) (a0_5 : Int) (a0_6 : Int) (A0_7 : Option Addr) (c0_7 : Nat) (l0_7 : List Int) (r : ByteArray) (w : World) (hr0_7 : Kd.C (Kd.int .i64) w A0_7 l0_7.length l0_7) (hc0_7 : l0_7.length ≤ c0_7) (h : jacquardref18_Text.f k a0_0 a0_1 a0_2 a0_3 a0_4 a0_5 a0_6 l0_7 = some r) :
  Calls Tryd.prog 23 #[.agg #[.int .i64 a0_0, .int .i64 a0_1, .int .i64 a0_2, .int .i64 a0_3, .int .i64 a0_4, .int .i64 a0_5, .int .i32 a0_6, .slice A0_7 l0_7.length c0_7]] w fun e w' => e = .returned (.string r) ∧ Below w.heap.size w w' := by
 have hu24 := Tryd.underlying24
 have hfn : ∀ (x y z : Value) (W : World), (Instr.field 70 (.agg #[x, y, z]) 0).run Tryd.prog W = .ok x W := fun x y z W => by kernel_rfl
 have HR0_7 := Aside0.mk hr0_7
 have HC0_7 := Aside0.mk hc0_7
 clear hr0_7 hc0_7
 have HB := Aside0.mk (Below.refl w.heap.size w)
 have H : ((jacquardref18_Shape.f k a0_0 a0_1 a0_2 a0_3 a0_4 a0_5 a0_6 l0_7).bind fun t180 => (if t180 = true then ((jacquardref18_Name.f a0_0).bind fun t181 => ((jacquardref18_has.f k a0_0 98).bind fun t182 => (if t182 = true then (jacquardref18_Text.j0 k t181 (a0_2 == 1) a0_0 a0_1 a0_2 a0_3 a0_4 a0_5 a0_6 l0_7) else (jacquardref18_Text.j0 k t181 false a0_0 a0_1 a0_2 a0_3 a0_4 a0_5 a0_6 l0_7)))) else (some (⟨#[]⟩ : ByteArray)))) = some r := h
 clear h
 replace H := Option.bind_eq_some_iff.mp H
 obtain ⟨t180, A20, H⟩ := H
 replace H : (if t180 = true then ((jacquardref18_Name.f a0_0).bind fun t181 => ((jacquardref18_has.f k a0_0 98).bind fun t182 => (if t182 = true then (jacquardref18_Text.j0 k t181 (a0_2 == 1) a0_0 a0_1 a0_2 a0_3 a0_4 a0_5 a0_6 l0_7) else (jacquardref18_Text.j0 k t181 false a0_0 a0_1 a0_2 a0_3 a0_4 a0_5 a0_6 l0_7)))) else (some (⟨#[]⟩ : ByteArray))) = some r := H
 have A2 := Aside0.mk A20
 clear A20
 by_cases c3 : t180 = true
 ·subst c3
  have H1 : ((jacquardref18_Name.f a0_0).bind fun t181 => ((jacquardref18_has.f k a0_0 98).bind fun t182 => (if t182 = true then (jacquardref18_Text.j0 k t181 (a0_2 == 1) a0_0 a0_1 a0_2 a0_3 a0_4 a0_5 a0_6 l0_7) else (jacquardref18_Text.j0 k t181 false a0_0 a0_1 a0_2 a0_3 a0_4 a0_5 a0_6 l0_7)))) = some r := by rw [if_pos rfl] at H; exact H
  clear H
  have H := H1
  clear H1
  replace H := Option.bind_eq_some_iff.mp H
  obtain ⟨t181, A40, H⟩ := H
  replace H : ((jacquardref18_has.f k a0_0 98).bind fun t182 => (if t182 = true then (jacquardref18_Text.j0 k t181 (a0_2 == 1) a0_0 a0_1 a0_2 a0_3 a0_4 a0_5 a0_6 l0_7) else (jacquardref18_Text.j0 k t181 false a0_0 a0_1 a0_2 a0_3 a0_4 a0_5 a0_6 l0_7))) = some r := H
  have A4 := Aside0.mk A40
  clear A40
  replace H := Option.bind_eq_some_iff.mp H
  obtain ⟨t182, A50, H⟩ := H
  replace H : (if t182 = true then (jacquardref18_Text.j0 k t181 (a0_2 == 1) a0_0 a0_1 a0_2 a0_3 a0_4 a0_5 a0_6 l0_7) else (jacquardref18_Text.j0 k t181 false a0_0 a0_1 a0_2 a0_3 a0_4 a0_5 a0_6 l0_7)) = some r := H
  have A5 := Aside0.mk A50
  clear A50
  have HC6 := Aside0.mk H
  clear H
  go_enter Tryd.func23, Tryd.ntmps23
  go_upto_region 5 with (first | ((with_reducible refine gate_dst (N := 1) rfl ?_); refine box_event ?hg (N := 1) ?hd (cs := #[.int .i64 a0_0, .int .i64 a0_1, .int .i64 a0_2, .int .i64 a0_3, .int .i64 a0_4, .int .i64 a0_5, .int .i32 a0_6, .slice A0_7 l0_7.length c0_7]) (t := 24) ?hr ?_; (case hd => rfl); (case hg => rfl); (case hr => first | (go_simp; done) | (go_simp; rfl)); intro gb179 hg w7 hbox hb; have n0_ := Aside0.mk (below_step (by repeat (first | (with_reducible first | exact HB.out | apply below_alloc | apply pw_below_drewN | apply below_drew1) | exact HB.out)) hb); have n1_ := Aside0.mk (hbox); have n2_ := Aside0.mk ((by rw [hg]; exact (below_size (by repeat (first | (with_reducible first | exact HB.out | apply below_alloc | apply pw_below_drewN | apply below_drew1) | exact HB.out))) : w.heap.size ≤ gb179)); have n3_ := Aside0.mk ((by rw [hg]; exact (below_size (by repeat (first | (with_reducible first | exact HB.out | apply below_alloc | apply pw_below_drewN | apply below_drew1) | exact HB.out))) : w.heap.size ≤ gb179)); clear HB; have HB := n0_; have BK179 := n1_; have GW179 := n2_; have GE179 := n3_; clear n0_ n1_ n2_ n3_; clear hb hbox hg; have hcz8_0 : w7.cell? ⟨gb179, 0, none⟩ = some (.int .i64 a0_0) := (blk_cell BK179.out 0).trans rfl; have hcz8_1 : w7.cell? ⟨gb179, 1, none⟩ = some (.int .i64 a0_1) := (blk_cell BK179.out 1).trans rfl; have hcz8_2 : w7.cell? ⟨gb179, 2, none⟩ = some (.int .i64 a0_2) := (blk_cell BK179.out 2).trans rfl; have hcz8_3 : w7.cell? ⟨gb179, 3, none⟩ = some (.int .i64 a0_3) := (blk_cell BK179.out 3).trans rfl; have hcz8_4 : w7.cell? ⟨gb179, 4, none⟩ = some (.int .i64 a0_4) := (blk_cell BK179.out 4).trans rfl; have hcz8_5 : w7.cell? ⟨gb179, 5, none⟩ = some (.int .i64 a0_5) := (blk_cell BK179.out 5).trans rfl; have hcz8_6 : w7.cell? ⟨gb179, 6, none⟩ = some (.int .i32 a0_6) := (blk_cell BK179.out 6).trans rfl; have hcz8_7 : w7.cell? ⟨gb179, 7, none⟩ = some (.slice A0_7 l0_7.length c0_7) := (blk_cell BK179.out 7).trans rfl; have hfz8_0 := blk_frozen BK179.out 0; have hfz8_1 := blk_frozen BK179.out 1; have hfz8_2 := blk_frozen BK179.out 2; have hfz8_3 := blk_frozen BK179.out 3; have hfz8_4 := blk_frozen BK179.out 4; have hfz8_5 := blk_frozen BK179.out 5; have hfz8_6 := blk_frozen BK179.out 6; have hfz8_7 := blk_frozen BK179.out 7) | ((with_reducible refine gate_callee (f := 46) rfl ?_); refine goesL_ (some 11) rfl rfl Tryd.func46 (by kernel_rfl) rfl #[.agg #[.int .i64 a0_0, .int .i64 a0_1, .int .i64 a0_2, .int .i64 a0_3, .int .i64 a0_4, .int .i64 a0_5, .int .i32 a0_6, .slice A0_7 l0_7.length c0_7]] rfl (by (try simp only [List.map_toArray, List.map_cons, List.map_nil]); first | done | rfl | (simp only [List.length_drop, List.length_take]; rfl)) ?_; (with_reducible refine (jacquardref18_Shape.calls k a0_0 a0_1 a0_2 a0_3 a0_4 a0_5 a0_6 _ _ l0_7 true _ ?side1 ?side2 A2.out).mono ?_); (case side1 => repeat (first | exact (Kd.C_below HR0_7.out HB.out) | (with_reducible refine Kd.C_alloc ?_ _) | (with_reducible refine Kd.C_drewN ?_ _) | (with_reducible refine Kd.C_drew ?_))); (case side2 => exact HC0_7.out); rintro e w9 ⟨rfl, hb⟩; refine ⟨_, rfl, ?_⟩; have n0_ := Aside0.mk (blk_below (g := gb179) (o := .cells #[.int .i64 a0_0, .int .i64 a0_1, .int .i64 a0_2, .int .i64 a0_3, .int .i64 a0_4, .int .i64 a0_5, .int .i32 a0_6, .slice A0_7 l0_7.length c0_7] 24 (0, 0)) (by (with_reducible repeat (first | refine blk_drewN ?_ _ | refine blk_drew ?_ | refine blk_alloc ?_ _)); exact BK179.out) hb); have n1_ := Aside0.mk (below_step (by repeat (first | (with_reducible first | exact HB.out | apply below_alloc | apply pw_below_drewN | apply below_drew1 | refine below_set ?_ GE179.out) | exact HB.out)) hb); clear BK179; clear HB; have BK179 := n0_; have HB := n1_; clear n0_ n1_; (try clear hb); (try clear hb2); (try clear hk); (try clear hi); have hcz10_0 : w9.cell? ⟨gb179, 0, none⟩ = some (.int .i64 a0_0) := (blk_cell BK179.out 0).trans rfl; have hcz10_1 : w9.cell? ⟨gb179, 1, none⟩ = some (.int .i64 a0_1) := (blk_cell BK179.out 1).trans rfl; have hcz10_2 : w9.cell? ⟨gb179, 2, none⟩ = some (.int .i64 a0_2) := (blk_cell BK179.out 2).trans rfl; have hcz10_3 : w9.cell? ⟨gb179, 3, none⟩ = some (.int .i64 a0_3) := (blk_cell BK179.out 3).trans rfl; have hcz10_4 : w9.cell? ⟨gb179, 4, none⟩ = some (.int .i64 a0_4) := (blk_cell BK179.out 4).trans rfl; have hcz10_5 : w9.cell? ⟨gb179, 5, none⟩ = some (.int .i64 a0_5) := (blk_cell BK179.out 5).trans rfl; have hcz10_6 : w9.cell? ⟨gb179, 6, none⟩ = some (.int .i32 a0_6) := (blk_cell BK179.out 6).trans rfl; have hcz10_7 : w9.cell? ⟨gb179, 7, none⟩ = some (.slice A0_7 l0_7.length c0_7) := (blk_cell BK179.out 7).trans rfl; have hfz10_0 := blk_frozen BK179.out 0; have hfz10_1 := blk_frozen BK179.out 1; have hfz10_2 := blk_frozen BK179.out 2; have hfz10_3 := blk_frozen BK179.out 3; have hfz10_4 := blk_frozen BK179.out 4; have hfz10_5 := blk_frozen BK179.out 5; have hfz10_6 := blk_frozen BK179.out 6; have hfz10_7 := blk_frozen BK179.out 7) | ((with_reducible refine gate_callee (f := 21) rfl ?_); refine goesL_ (some 15) rfl rfl Tryd.func21 (by kernel_rfl) rfl #[.int .i64 a0_0] rfl (by (try simp only [List.map_toArray, List.map_cons, List.map_nil]); first | done | rfl | (simp only [List.length_drop, List.length_take]; rfl)) ?_; (with_reducible refine (jacquardref18_Name.calls a0_0 t181 _ A4.out).mono ?_); rintro e w11 ⟨rfl, hb⟩; refine ⟨_, rfl, ?_⟩; have n0_ := Aside0.mk (blk_below (g := gb179) (o := .cells #[.int .i64 a0_0, .int .i64 a0_1, .int .i64 a0_2, .int .i64 a0_3, .int .i64 a0_4, .int .i64 a0_5, .int .i32 a0_6, .slice A0_7 l0_7.length c0_7] 24 (0, 0)) (by (with_reducible repeat (first | refine blk_drewN ?_ _ | refine blk_drew ?_ | refine blk_alloc ?_ _)); exact BK179.out) hb); have n1_ := Aside0.mk (below_step (by repeat (first | (with_reducible first | exact HB.out | apply below_alloc | apply pw_below_drewN | apply below_drew1 | refine below_set ?_ GE179.out) | exact HB.out)) hb); clear BK179; clear HB; have BK179 := n0_; have HB := n1_; clear n0_ n1_; (try clear hb); (try clear hb2); (try clear hk); (try clear hi); have hcz12_0 : w11.cell? ⟨gb179, 0, none⟩ = some (.int .i64 a0_0) := (blk_cell BK179.out 0).trans rfl; have hcz12_1 : w11.cell? ⟨gb179, 1, none⟩ = some (.int .i64 a0_1) := (blk_cell BK179.out 1).trans rfl; have hcz12_2 : w11.cell? ⟨gb179, 2, none⟩ = some (.int .i64 a0_2) := (blk_cell BK179.out 2).trans rfl; have hcz12_3 : w11.cell? ⟨gb179, 3, none⟩ = some (.int .i64 a0_3) := (blk_cell BK179.out 3).trans rfl; have hcz12_4 : w11.cell? ⟨gb179, 4, none⟩ = some (.int .i64 a0_4) := (blk_cell BK179.out 4).trans rfl; have hcz12_5 : w11.cell? ⟨gb179, 5, none⟩ = some (.int .i64 a0_5) := (blk_cell BK179.out 5).trans rfl; have hcz12_6 : w11.cell? ⟨gb179, 6, none⟩ = some (.int .i32 a0_6) := (blk_cell BK179.out 6).trans rfl; have hcz12_7 : w11.cell? ⟨gb179, 7, none⟩ = some (.slice A0_7 l0_7.length c0_7) := (blk_cell BK179.out 7).trans rfl; have hfz12_0 := blk_frozen BK179.out 0; have hfz12_1 := blk_frozen BK179.out 1; have hfz12_2 := blk_frozen BK179.out 2; have hfz12_3 := blk_frozen BK179.out 3; have hfz12_4 := blk_frozen BK179.out 4; have hfz12_5 := blk_frozen BK179.out 5; have hfz12_6 := blk_frozen BK179.out 6; have hfz12_7 := blk_frozen BK179.out 7) | ((with_reducible refine gate_callee (f := 47) rfl ?_); refine goesL_ (some 18) rfl rfl Tryd.func47 (by kernel_rfl) rfl #[.int .i64 a0_0, .int .u8 98] rfl (by (try simp only [List.map_toArray, List.map_cons, List.map_nil]); first | done | rfl | (simp only [List.length_drop, List.length_take]; rfl)) ?_; (with_reducible refine (jacquardref18_has.calls k a0_0 98 t182 _ A5.out).mono ?_); rintro e w' ⟨rfl, ⟨nd, rfl⟩⟩; refine ⟨_, rfl, ?_⟩))
  (try simp only [Act.put, List.setIfInBounds_toArray, List.set_cons_zero, List.set_cons_succ])
  go_cut [24] (fun v24 wc => ∃ (kq : Nat) (x24_5 : Bool), v24 = .bool x24_5 ∧ Aside0 (jacquardref18_Text.j0 kq t181 x24_5 a0_0 a0_1 a0_2 a0_3 a0_4 a0_5 a0_6 l0_7 = some r) ∧ Aside0 (kq ≤ k) ∧ Aside0 (wc.heap[gb179]? = some (.cells #[.int .i64 a0_0, .int .i64 a0_1, .int .i64 a0_2, .int .i64 a0_3, .int .i64 a0_4, .int .i64 a0_5, .int .i32 a0_6, (.slice A0_7 l0_7.length c0_7)] 24 (0, 0))) ∧ Aside0 (Below w.heap.size w wc))
  case first =>
   have H := HC6.out
   clear HC6
   by_cases c13 : t182 = true
   ·subst c13
    have H1 : (jacquardref18_Text.j0 k t181 (a0_2 == 1) a0_0 a0_1 a0_2 a0_3 a0_4 a0_5 a0_6 l0_7) = some r := by rw [if_pos rfl] at H; exact H
    clear H
    have H := H1
    clear H1
    have H' := Aside0.mk H
    clear H
    have hcz14_0 : w11.cell? ⟨gb179, 0, none⟩ = some (.int .i64 a0_0) := (blk_cell BK179.out 0).trans rfl
    have hcz14_1 : w11.cell? ⟨gb179, 1, none⟩ = some (.int .i64 a0_1) := (blk_cell BK179.out 1).trans rfl
    have hcz14_2 : w11.cell? ⟨gb179, 2, none⟩ = some (.int .i64 a0_2) := (blk_cell BK179.out 2).trans rfl
    have hcz14_3 : w11.cell? ⟨gb179, 3, none⟩ = some (.int .i64 a0_3) := (blk_cell BK179.out 3).trans rfl
    have hcz14_4 : w11.cell? ⟨gb179, 4, none⟩ = some (.int .i64 a0_4) := (blk_cell BK179.out 4).trans rfl
    have hcz14_5 : w11.cell? ⟨gb179, 5, none⟩ = some (.int .i64 a0_5) := (blk_cell BK179.out 5).trans rfl
    have hcz14_6 : w11.cell? ⟨gb179, 6, none⟩ = some (.int .i32 a0_6) := (blk_cell BK179.out 6).trans rfl
    have hcz14_7 : w11.cell? ⟨gb179, 7, none⟩ = some (.slice A0_7 l0_7.length c0_7) := (blk_cell BK179.out 7).trans rfl
    have hfz14_0 := blk_frozen BK179.out 0
    have hfz14_1 := blk_frozen BK179.out 1
    have hfz14_2 := blk_frozen BK179.out 2
    have hfz14_3 := blk_frozen BK179.out 3
    have hfz14_4 := blk_frozen BK179.out 4
    have hfz14_5 := blk_frozen BK179.out 5
    have hfz14_6 := blk_frozen BK179.out 6
    have hfz14_7 := blk_frozen BK179.out 7
    go_wp2
    go_meet
    case rel => exact ⟨_, ((a0_2 == 1)), (by first | rfl | (simp; done) | (simp [*]; done)), H', ⟨by first | omega | exact Nat.le_refl _⟩, ⟨by (with_reducible repeat (first | refine blk_drewN ?_ _ | refine blk_drew ?_ | refine blk_alloc ?_ _)); exact BK179.out⟩, ⟨by repeat (first | (with_reducible first | exact HB.out | apply below_alloc | apply pw_below_drewN | apply below_drew1 | refine below_set ?_ GE179.out) | exact HB.out)⟩⟩
   ·replace c13 := Bool.eq_false_iff.mpr c13
    subst c13
    have H1 : (jacquardref18_Text.j0 k t181 false a0_0 a0_1 a0_2 a0_3 a0_4 a0_5 a0_6 l0_7) = some r := by rw [if_neg (show ¬ (false = true) by decide)] at H; exact H
    clear H
    have H := H1
    clear H1
    have H' := Aside0.mk H
    clear H
    go_wp2
    go_meet
    case rel => exact ⟨_, (false), (by first | rfl | (simp; done) | (simp [*]; done)), H', ⟨by first | omega | exact Nat.le_refl _⟩, ⟨by (with_reducible repeat (first | refine blk_drewN ?_ _ | refine blk_drew ?_ | refine blk_alloc ?_ _)); exact BK179.out⟩, ⟨by repeat (first | (with_reducible first | exact HB.out | apply below_alloc | apply pw_below_drewN | apply below_drew1 | refine below_set ?_ GE179.out) | exact HB.out)⟩⟩
  case rest =>
   clear HC6
   try clear c1
   try clear c2
   try clear p2
   try clear c3
   try clear c4
   try clear c13
   try clear hcz10_0
   try clear hcz10_1
   try clear hcz10_2
   try clear hcz10_3
   try clear hcz10_4
   try clear hcz10_5
   try clear hcz10_6
   try clear hcz10_7
   try clear hcz12_0
   try clear hcz12_1
   try clear hcz12_2
   try clear hcz12_3
   try clear hcz12_4
   try clear hcz12_5
   try clear hcz12_6
   try clear hcz12_7
   try clear hcz14_0
   try clear hcz14_1
   try clear hcz14_2
   try clear hcz14_3
   try clear hcz14_4
   try clear hcz14_5
   try clear hcz14_6
   try clear hcz14_7
   try clear hcz8_0
   try clear hcz8_1
   try clear hcz8_2
   try clear hcz8_3
   try clear hcz8_4
   try clear hcz8_5
   try clear hcz8_6
   try clear hcz8_7
   try clear hfz10_0
   try clear hfz10_1
   try clear hfz10_2
   try clear hfz10_3
   try clear hfz10_4
   try clear hfz10_5
   try clear hfz10_6
   try clear hfz10_7
   try clear hfz12_0
   try clear hfz12_1
   try clear hfz12_2
   try clear hfz12_3
   try clear hfz12_4
   try clear hfz12_5
   try clear hfz12_6
   try clear hfz12_7
   try clear hfz14_0
   try clear hfz14_1
   try clear hfz14_2
   try clear hfz14_3
   try clear hfz14_4
   try clear hfz14_5
   try clear hfz14_6
   try clear hfz14_7
   try clear hfz8_0
   try clear hfz8_1
   try clear hfz8_2
   try clear hfz8_3
   try clear hfz8_4
   try clear hfz8_5
   try clear hfz8_6
   try clear hfz8_7
   obtain ⟨kq, x24_5, rfl, HA, HJ5, BK179, HB⟩ := hcut
   cases kq with
   | zero => exact absurd HA.out (by simp [jacquardref18_Text.j0])
   | succ kj5 =>
    have H := HA.out
    clear HA
    simp only [jacquardref18_Text.j0] at H
    have HC15 := Aside0.mk H
    clear H
    go_upto_if 24 with (fail)
    go_cut [3] (fun v3 wc => ∃ (kq : Nat) (x3_14 : ByteArray), v3 = .string x3_14 ∧ Aside0 (jacquardref18_Text.j1 kq x3_14 a0_0 a0_1 a0_2 a0_3 a0_4 a0_5 a0_6 l0_7 = some r) ∧ Aside0 (kq ≤ kj5) ∧ Aside0 (wc.heap[gb179]? = some (.cells #[.int .i64 a0_0, .int .i64 a0_1, .int .i64 a0_2, .int .i64 a0_3, .int .i64 a0_4, .int .i64 a0_5, .int .i32 a0_6, (.slice A0_7 l0_7.length c0_7)] 24 (0, 0))) ∧ Aside0 (Below w.heap.size w wc))
    case first =>
     have H := HC15.out
     clear HC15
     by_cases c16 : x24_5 = true
     ·subst c16
      have H1 : (if t181.size + 2 ≤ 9223372036854775807 then (jacquardref18_Text.j1 kj5 (t181 ++ (⟨#[46, 108]⟩ : ByteArray)) a0_0 a0_1 a0_2 a0_3 a0_4 a0_5 a0_6 l0_7) else (none)) = some r := by rw [if_pos rfl] at H; exact H
      clear H
      have H := H1
      clear H1
      by_cases c17 : t181.size + 2 ≤ 9223372036854775807
      ·rw [if_pos c17] at H
       have c17b0 := eq_true c17
       have c17b1 : decide (t181.size + 2 ≤ 9223372036854775807) = true := decide_eq_true c17
       try have c17b2 : (9223372036854775807 < t181.size + 2) = False := eq_false (Nat.not_lt.2 c17)
       have H' := Aside0.mk H
       clear H
       go_wp2
       go_meet
       case rel => exact ⟨_, (t181 ++ (⟨#[46, 108]⟩ : ByteArray)), (by first | rfl | (simp; done) | (simp [*]; done)), H', ⟨by have := HJ5.out; first | omega | exact Nat.le_refl _⟩, ⟨by (with_reducible repeat (first | refine blk_drewN ?_ _ | refine blk_drew ?_ | refine blk_alloc ?_ _)); exact BK179.out⟩, ⟨by repeat (first | (with_reducible first | exact HB.out | apply below_alloc | apply pw_below_drewN | apply below_drew1 | refine below_set ?_ GE179.out) | exact HB.out)⟩⟩
      ·rw [if_neg c17] at H
       exact absurd H (by simp)
     ·replace c16 := Bool.eq_false_iff.mpr c16
      subst c16
      have H1 : (jacquardref18_Text.j1 kj5 t181 a0_0 a0_1 a0_2 a0_3 a0_4 a0_5 a0_6 l0_7) = some r := by rw [if_neg (show ¬ (false = true) by decide)] at H; exact H
      clear H
      have H := H1
      clear H1
      have H' := Aside0.mk H
      clear H
      go_wp2
      go_meet
      case rel => exact ⟨_, (t181), (by first | rfl | (simp; done) | (simp [*]; done)), H', ⟨by have := HJ5.out; first | omega | exact Nat.le_refl _⟩, ⟨by (with_reducible repeat (first | refine blk_drewN ?_ _ | refine blk_drew ?_ | refine blk_alloc ?_ _)); exact BK179.out⟩, ⟨by repeat (first | (with_reducible first | exact HB.out | apply below_alloc | apply pw_below_drewN | apply below_drew1 | refine below_set ?_ GE179.out) | exact HB.out)⟩⟩
    case rest =>
     clear HC15
     try clear c1
     try clear c2
     try clear p2
     try clear c3
     try clear c4
     try clear c13
     try clear c16
     try clear c17
     try clear c17b0
     try clear c17b1
     try clear c17b2
     try clear hcz10_0
     try clear hcz10_1
     try clear hcz10_2
     try clear hcz10_3
     try clear hcz10_4
     try clear hcz10_5
     try clear hcz10_6
     try clear hcz10_7
     try clear hcz12_0
     try clear hcz12_1
     try clear hcz12_2
     try clear hcz12_3
     try clear hcz12_4
     try clear hcz12_5
     try clear hcz12_6
     try clear hcz12_7
     try clear hcz14_0
     try clear hcz14_1
     try clear hcz14_2
     try clear hcz14_3
     try clear hcz14_4
     try clear hcz14_5
     try clear hcz14_6
     try clear hcz14_7
     try clear hcz8_0
     try clear hcz8_1
     try clear hcz8_2
     try clear hcz8_3
     try clear hcz8_4
     try clear hcz8_5
     try clear hcz8_6
     try clear hcz8_7
     try clear hfz10_0
     try clear hfz10_1
     try clear hfz10_2
     try clear hfz10_3
     try clear hfz10_4
     try clear hfz10_5
     try clear hfz10_6
     try clear hfz10_7
     try clear hfz12_0
     try clear hfz12_1
     try clear hfz12_2
     try clear hfz12_3
     try clear hfz12_4
     try clear hfz12_5
     try clear hfz12_6
     try clear hfz12_7
     try clear hfz14_0
     try clear hfz14_1
     try clear hfz14_2
     try clear hfz14_3
     try clear hfz14_4
     try clear hfz14_5
     try clear hfz14_6
     try clear hfz14_7
     try clear hfz8_0
     try clear hfz8_1
     try clear hfz8_2
     try clear hfz8_3
     try clear hfz8_4
     try clear hfz8_5
     try clear hfz8_6
     try clear hfz8_7
     try clear p2
     obtain ⟨kq, x3_14, rfl, HA, HJ14, BK179, HB⟩ := hcut
     cases kq with
     | zero => exact absurd HA.out (by simp [jacquardref18_Text.j1])
     | succ kj14 =>
      have H := HA.out
      clear HA
      simp only [jacquardref18_Text.j1] at H
      replace H := Option.bind_eq_some_iff.mp H
      obtain ⟨t183, A180, H⟩ := H
      replace H : (jacquardref18_Text.l0 kj14 x3_14 t183 0 a0_0 a0_1 a0_2 a0_3 a0_4 a0_5 a0_6 l0_7) = some r := H
      have A18 := Aside0.mk A180
      clear A180
      have H' := Aside0.mk H
      clear H
      have hcz19_0 : wc.cell? ⟨gb179, 0, none⟩ = some (.int .i64 a0_0) := (blk_cell BK179.out 0).trans rfl
      have hcz19_1 : wc.cell? ⟨gb179, 1, none⟩ = some (.int .i64 a0_1) := (blk_cell BK179.out 1).trans rfl
      have hcz19_2 : wc.cell? ⟨gb179, 2, none⟩ = some (.int .i64 a0_2) := (blk_cell BK179.out 2).trans rfl
      have hcz19_3 : wc.cell? ⟨gb179, 3, none⟩ = some (.int .i64 a0_3) := (blk_cell BK179.out 3).trans rfl
      have hcz19_4 : wc.cell? ⟨gb179, 4, none⟩ = some (.int .i64 a0_4) := (blk_cell BK179.out 4).trans rfl
      have hcz19_5 : wc.cell? ⟨gb179, 5, none⟩ = some (.int .i64 a0_5) := (blk_cell BK179.out 5).trans rfl
      have hcz19_6 : wc.cell? ⟨gb179, 6, none⟩ = some (.int .i32 a0_6) := (blk_cell BK179.out 6).trans rfl
      have hcz19_7 : wc.cell? ⟨gb179, 7, none⟩ = some (.slice A0_7 l0_7.length c0_7) := (blk_cell BK179.out 7).trans rfl
      have hfz19_0 := blk_frozen BK179.out 0
      have hfz19_1 := blk_frozen BK179.out 1
      have hfz19_2 := blk_frozen BK179.out 2
      have hfz19_3 := blk_frozen BK179.out 3
      have hfz19_4 := blk_frozen BK179.out 4
      have hfz19_5 := blk_frozen BK179.out 5
      have hfz19_6 := blk_frozen BK179.out 6
      have hfz19_7 := blk_frozen BK179.out 7
      go_wp2_with (first | ((with_reducible refine gate_callee (f := 49) rfl ?_); refine goesL_ (some 28) rfl rfl Tryd.func49 (by kernel_rfl) rfl #[.agg #[.int .i64 a0_0, .int .i64 a0_1, .int .i64 a0_2, .int .i64 a0_3, .int .i64 a0_4, .int .i64 a0_5, .int .i32 a0_6, .slice A0_7 l0_7.length c0_7]] rfl (by (try simp only [List.map_toArray, List.map_cons, List.map_nil]); first | done | rfl | (simp only [List.length_drop, List.length_take]; rfl)) ?_; (with_reducible refine (jacquardref18_Regs.calls kj14 a0_0 a0_1 a0_2 a0_3 a0_4 a0_5 a0_6 _ _ l0_7 t183 _ ?side1 ?side2 A18.out).mono ?_); (case side1 => repeat (first | exact (Kd.C_below HR0_7.out HB.out) | (with_reducible refine Kd.C_alloc ?_ _) | (with_reducible refine Kd.C_drewN ?_ _) | (with_reducible refine Kd.C_drew ?_))); (case side2 => exact HC0_7.out); rintro e w20 ⟨v184, rfl, ho0, hb⟩; refine ⟨_, rfl, ?_⟩; have n0_ := Aside0.mk (Kd.R_lower ho0 (below_size (by repeat (first | (with_reducible first | exact HB.out | apply below_alloc | apply pw_below_drewN | apply below_drew1 | refine below_set ?_ GE179.out) | exact HB.out)))); have n1_ := Aside0.mk (blk_below (g := gb179) (o := .cells #[.int .i64 a0_0, .int .i64 a0_1, .int .i64 a0_2, .int .i64 a0_3, .int .i64 a0_4, .int .i64 a0_5, .int .i32 a0_6, .slice A0_7 l0_7.length c0_7] 24 (0, 0)) (by (with_reducible repeat (first | refine blk_drewN ?_ _ | refine blk_drew ?_ | refine blk_alloc ?_ _)); exact BK179.out) hb); have n2_ := Aside0.mk (below_step (by repeat (first | (with_reducible first | exact HB.out | apply below_alloc | apply pw_below_drewN | apply below_drew1 | refine below_set ?_ GE179.out) | exact HB.out)) hb); clear BK179; clear HB; have HO185 := n0_; have BK179 := n1_; have HB := n2_; clear n0_ n1_ n2_; (try clear hb); (try clear hb2); (try clear hk); (try clear hi); (try clear ho0)))
      go_loopg [3, 6] kj14 (fun kq v3 v6 w' => ∃ (x3_3 : ByteArray) (x6_3 : Int), v3 = .string x3_3 ∧ v6 = .int .i64 x6_3 ∧ Aside0 (jacquardref18_Text.l0 kq x3_3 t183 x6_3 a0_0 a0_1 a0_2 a0_3 a0_4 a0_5 a0_6 l0_7 = some r) ∧ Aside0 (kq ≤ kj14) ∧ Aside0 (Kd.R (Kd.int .i64) 3 w' w.heap.size (fun _ => True) v184 t183) ∧ Aside0 (w'.heap[gb179]? = some (.cells #[.int .i64 a0_0, .int .i64 a0_1, .int .i64 a0_2, .int .i64 a0_3, .int .i64 a0_4, .int .i64 a0_5, .int .i32 a0_6, (.slice A0_7 l0_7.length c0_7)] 24 (0, 0))) ∧ Aside0 (Below w.heap.size w w'))
      case atStart => exact ⟨(x3_14), (0), (by first | rfl | (simp; done) | (simp [*]; done)), (by first | rfl | (simp; done) | (simp [*]; done)), H', ⟨Nat.le_refl _⟩, ⟨by (with_reducible repeat (first | apply Kd.R_alloc | apply Kd.R_drewN | apply Kd.R_drew)); exact HO185.out⟩, ⟨by (with_reducible repeat (first | refine blk_drewN ?_ _ | refine blk_drew ?_ | refine blk_alloc ?_ _)); exact BK179.out⟩, ⟨by repeat (first | (with_reducible first | exact HB.out | apply below_alloc | apply pw_below_drewN | apply below_drew1 | refine below_set ?_ GE179.out) | exact HB.out)⟩⟩
      case round =>
       clear H'
       try clear c1
       try clear c2
       try clear p2
       try clear c3
       try clear c4
       try clear c13
       try clear c16
       try clear c17
       try clear c17b0
       try clear c17b1
       try clear c17b2
       try clear hcz10_0
       try clear hcz10_1
       try clear hcz10_2
       try clear hcz10_3
       try clear hcz10_4
       try clear hcz10_5
       try clear hcz10_6
       try clear hcz10_7
       try clear hcz12_0
       try clear hcz12_1
       try clear hcz12_2
       try clear hcz12_3
       try clear hcz12_4
       try clear hcz12_5
       try clear hcz12_6
       try clear hcz12_7
       try clear hcz14_0
       try clear hcz14_1
       try clear hcz14_2
       try clear hcz14_3
       try clear hcz14_4
       try clear hcz14_5
       try clear hcz14_6
       try clear hcz14_7
       try clear hcz19_0
       try clear hcz19_1
       try clear hcz19_2
       try clear hcz19_3
       try clear hcz19_4
       try clear hcz19_5
       try clear hcz19_6
       try clear hcz19_7
       try clear hcz8_0
       try clear hcz8_1
       try clear hcz8_2
       try clear hcz8_3
       try clear hcz8_4
       try clear hcz8_5
       try clear hcz8_6
       try clear hcz8_7
       try clear hfz10_0
       try clear hfz10_1
       try clear hfz10_2
       try clear hfz10_3
       try clear hfz10_4
       try clear hfz10_5
       try clear hfz10_6
       try clear hfz10_7
       try clear hfz12_0
       try clear hfz12_1
       try clear hfz12_2
       try clear hfz12_3
       try clear hfz12_4
       try clear hfz12_5
       try clear hfz12_6
       try clear hfz12_7
       try clear hfz14_0
       try clear hfz14_1
       try clear hfz14_2
       try clear hfz14_3
       try clear hfz14_4
       try clear hfz14_5
       try clear hfz14_6
       try clear hfz14_7
       try clear hfz19_0
       try clear hfz19_1
       try clear hfz19_2
       try clear hfz19_3
       try clear hfz19_4
       try clear hfz19_5
       try clear hfz19_6
       try clear hfz19_7
       try clear hfz8_0
       try clear hfz8_1
       try clear hfz8_2
       try clear hfz8_3
       try clear hfz8_4
       try clear hfz8_5
       try clear hfz8_6
       try clear hfz8_7
       try clear p2
       obtain ⟨x3_3, x6_3, rfl, rfl, HA, HK3, HO_5, BK179, HB⟩ := hrel
       cases gk with
       | zero => exact absurd HA.out (by simp [jacquardref18_Text.l0])
       | succ k3 =>
        have H := HA.out
        clear HA
        simp only [jacquardref18_Text.l0] at H
        by_cases c21 : x6_3 < (t183.length : Int)
        ·rw [if_pos c21] at H
         have c21b0 : decide (x6_3 < (t183.length : Int)) = true := decide_eq_true c21
         clear c21
         by_cases c22 : x3_3.size + 2 ≤ 9223372036854775807
         ·rw [if_pos c22] at H
          have c22b0 := eq_true c22
          have c22b1 : decide (x3_3.size + 2 ≤ 9223372036854775807) = true := decide_eq_true c22
          try have c22b2 : (9223372036854775807 < x3_3.size + 2) = False := eq_false (Nat.not_lt.2 c22)
          by_cases c23 : 0 ≤ x6_3
          ·rw [if_pos c23] at H
           have c23b0 : decide (0 ≤ x6_3) = true := decide_eq_true c23
           clear c23
           replace H := Option.bind_eq_some_iff.mp H
           obtain ⟨t187, A240, H⟩ := H
           replace H : (if (x3_3 ++ (⟨#[32, 114]⟩ : ByteArray)).size + t187.size ≤ 9223372036854775807 then (jacquardref18_Text.l0 k3 ((x3_3 ++ (⟨#[32, 114]⟩ : ByteArray)) ++ t187) t183 (wrap64 (x6_3 + 1)) a0_0 a0_1 a0_2 a0_3 a0_4 a0_5 a0_6 l0_7) else (none)) = some r := H
           have A24 := Aside0.mk A240
           clear A240
           by_cases c25 : (x3_3 ++ (⟨#[32, 114]⟩ : ByteArray)).size + t187.size ≤ 9223372036854775807
           ·rw [if_pos c25] at H
            have c25b0 := eq_true c25
            have c25b1 : decide ((x3_3 ++ (⟨#[32, 114]⟩ : ByteArray)).size + t187.size ≤ 9223372036854775807) = true := decide_eq_true c25
            try have c25b2 : (9223372036854775807 < (x3_3 ++ (⟨#[32, 114]⟩ : ByteArray)).size + t187.size) = False := eq_false (Nat.not_lt.2 c25)
            have c25b3 : (9223372036854775807 < x3_3.size + 2 + t187.size) = False := eq_false (by have h := c25; simp only [ByteArray.size_append] at h; exact Nat.not_lt.2 h)
            have c25b4 : (x3_3.size + 2 + t187.size ≤ 9223372036854775807) = True := eq_true (by have h := c25; simp only [ByteArray.size_append] at h; exact h)
            have H' := Aside0.mk H
            clear H
            obtain ⟨Ao26, co26, eo26⟩ := Kd.R_slice HO_5.out
            subst eo26
            have p186 : 0 ≤ (x6_3 : Int) := of_decide_eq_true (by first | (with_reducible assumption) | assumption)
            have q186 : x6_3 < (t183.length : Int) := of_decide_eq_true (by first | (with_reducible assumption) | assumption)
            obtain ⟨ad186, e186, hx186_0⟩ := Kd.at_int (Kd.R_reads' HO_5.out).2.2 x6_3 p186 q186
            cases e186
            replace p186 := eq_true p186
            replace q186 := eq_true q186
            go_wp2_with (first | ((with_reducible refine gate_callee (f := 56) rfl ?_); refine goesL_ (some 41) rfl rfl Tryd.func56 (by kernel_rfl) rfl #[.int .i64 (rd t183 x6_3)] rfl (by (try simp only [List.map_toArray, List.map_cons, List.map_nil]); first | done | rfl | (simp only [List.length_drop, List.length_take]; rfl)) ?_; (with_reducible refine (jacquardref18_whole.calls k3 (rd t183 x6_3) t187 _ A24.out).mono ?_); rintro e w27 ⟨rfl, hb⟩; refine ⟨_, rfl, ?_⟩; have n0_ := Aside0.mk (Kd.R_below (by (with_reducible repeat (first | apply Kd.R_alloc | apply Kd.R_drewN | apply Kd.R_drew)); exact HO_5.out) hb); have n1_ := Aside0.mk (blk_below (g := gb179) (o := .cells #[.int .i64 a0_0, .int .i64 a0_1, .int .i64 a0_2, .int .i64 a0_3, .int .i64 a0_4, .int .i64 a0_5, .int .i32 a0_6, .slice A0_7 l0_7.length c0_7] 24 (0, 0)) (by (with_reducible repeat (first | refine blk_drewN ?_ _ | refine blk_drew ?_ | refine blk_alloc ?_ _)); exact BK179.out) hb); have n2_ := Aside0.mk (below_step (by repeat (first | (with_reducible first | exact HB.out | apply below_alloc | apply pw_below_drewN | apply below_drew1 | refine below_set ?_ GE179.out) | exact HB.out)) hb); clear HO_5; clear BK179; clear HB; have HO_5 := n0_; have BK179 := n1_; have HB := n2_; clear n0_ n1_ n2_; (try clear hb); (try clear hb2); (try clear hk); (try clear hi)))
            go_roundg k3
            case measure => have := HJ5.out; have := HJ14.out; have := HK3.out; omega
            case rel => exact ⟨((x3_3 ++ (⟨#[32, 114]⟩ : ByteArray)) ++ t187), (wrap64 (x6_3 + 1)), (by first | rfl | (simp; done) | (simp [*]; done)), (by first | rfl | (simp; done) | (simp [*]; done)), H', ⟨by have := HJ5.out; have := HJ14.out; have := HK3.out; omega⟩, ⟨by (with_reducible repeat (first | apply Kd.R_alloc | apply Kd.R_drewN | apply Kd.R_drew)); exact HO_5.out⟩, ⟨by (with_reducible repeat (first | refine blk_drewN ?_ _ | refine blk_drew ?_ | refine blk_alloc ?_ _)); exact BK179.out⟩, ⟨by repeat (first | (with_reducible first | exact HB.out | apply below_alloc | apply pw_below_drewN | apply below_drew1 | refine below_set ?_ GE179.out) | exact HB.out)⟩⟩
           ·rw [if_neg c25] at H
            exact absurd H (by simp)
          ·rw [if_neg c23] at H
           exact absurd H (by simp)
         ·rw [if_neg c22] at H
          exact absurd H (by simp)
        ·rw [if_neg c21] at H
         have c21b0 : decide (x6_3 < (t183.length : Int)) = false := decide_eq_false c21
         clear c21
         replace H := Option.bind_eq_some_iff.mp H
         obtain ⟨t188, A280, H⟩ := H
         replace H : (if 0 ≤ (wrap64 ((t188.size : Int) - 1)) then (if (wrap64 ((t188.size : Int) - 1)) < (t188.size : Int) then (if (bt t188 (wrap64 ((t188.size : Int) - 1))) = 101 then (if a0_2 = 1 then (if x3_3.size + 3 ≤ 9223372036854775807 then (some (x3_3 ++ (⟨#[32, 114, 48]⟩ : ByteArray))) else (none)) else (some x3_3)) else (if (bt t188 (wrap64 ((t188.size : Int) - 1))) = 116 then (jacquardref18_Text.l1 k3 x3_3 0 a0_0 a0_1 a0_2 a0_3 a0_4 a0_5 a0_6 l0_7) else (if a0_0 = 28 then (if x3_3.size + 1 ≤ 9223372036854775807 then ((jacquardref18_digits.f k3 (l0_7.length : Int)).bind fun t191 => (if (x3_3 ++ (⟨#[32]⟩ : ByteArray)).size + t191.size ≤ 9223372036854775807 then (if ((x3_3 ++ (⟨#[32]⟩ : ByteArray)) ++ t191).size + 1 ≤ 9223372036854775807 then ((jacquardref18_digits.f k3 (wrap64 (a0_6))).bind fun t192 => (if (((x3_3 ++ (⟨#[32]⟩ : ByteArray)) ++ t191) ++ (⟨#[32]⟩ : ByteArray)).size + t192.size ≤ 9223372036854775807 then (some ((((x3_3 ++ (⟨#[32]⟩ : ByteArray)) ++ t191) ++ (⟨#[32]⟩ : ByteArray)) ++ t192)) else (none))) else (none)) else (none))) else (none)) else ((jacquardref18_Of.f (bt t188 (wrap64 ((t188.size : Int) - 1))) false).bind fun bt193 => (if bt193.1 > 0 then (if x3_3.size + 1 ≤ 9223372036854775807 then ((jacquardref18_digits.f k3 (wrap64 (a0_6))).bind fun t196 => (if (x3_3 ++ (⟨#[32]⟩ : ByteArray)).size + t196.size ≤ 9223372036854775807 then (some ((x3_3 ++ (⟨#[32]⟩ : ByteArray)) ++ t196)) else (none))) else (none)) else (some x3_3)))))) else (none)) else (none)) = some r := H
         have A28 := Aside0.mk A280
         clear A280
         obtain ⟨ji29, hji29⟩ : ∃ j_ : Int, (wrap64 ((t188.size : Int) - 1)) = j_ := ⟨_, rfl⟩
         replace H : (if 0 ≤ (ji29) then (if (ji29) < (t188.size : Int) then (if (bt t188 (ji29)) = 101 then (if a0_2 = 1 then (if x3_3.size + 3 ≤ 9223372036854775807 then (some (x3_3 ++ (⟨#[32, 114, 48]⟩ : ByteArray))) else (none)) else (some x3_3)) else (if (bt t188 (ji29)) = 116 then (jacquardref18_Text.l1 k3 x3_3 0 a0_0 a0_1 a0_2 a0_3 a0_4 a0_5 a0_6 l0_7) else (if a0_0 = 28 then (if x3_3.size + 1 ≤ 9223372036854775807 then ((jacquardref18_digits.f k3 (l0_7.length : Int)).bind fun t191 => (if (x3_3 ++ (⟨#[32]⟩ : ByteArray)).size + t191.size ≤ 9223372036854775807 then (if ((x3_3 ++ (⟨#[32]⟩ : ByteArray)) ++ t191).size + 1 ≤ 9223372036854775807 then ((jacquardref18_digits.f k3 (wrap64 (a0_6))).bind fun t192 => (if (((x3_3 ++ (⟨#[32]⟩ : ByteArray)) ++ t191) ++ (⟨#[32]⟩ : ByteArray)).size + t192.size ≤ 9223372036854775807 then (some ((((x3_3 ++ (⟨#[32]⟩ : ByteArray)) ++ t191) ++ (⟨#[32]⟩ : ByteArray)) ++ t192)) else (none))) else (none)) else (none))) else (none)) else ((jacquardref18_Of.f (bt t188 (ji29)) false).bind fun bt193 => (if bt193.1 > 0 then (if x3_3.size + 1 ≤ 9223372036854775807 then ((jacquardref18_digits.f k3 (wrap64 (a0_6))).bind fun t196 => (if (x3_3 ++ (⟨#[32]⟩ : ByteArray)).size + t196.size ≤ 9223372036854775807 then (some ((x3_3 ++ (⟨#[32]⟩ : ByteArray)) ++ t196)) else (none))) else (none)) else (some x3_3)))))) else (none)) else (none)) = some r := by first | (rw [hji29] at H; exact H) | (simp only [hji29] at H ⊢; exact H)
         (try rw [hji29] at A28)
         have hji29w : (IntKind.i64.wrap ((t188.size : Int) - 1)) = ji29 := (i64_w _).trans hji29
         by_cases c30 : 0 ≤ (ji29)
         ·rw [if_pos c30] at H
          have c30b0 : decide (0 ≤ (ji29)) = true := decide_eq_true c30
          clear c30
          by_cases c31 : (ji29) < (t188.size : Int)
          ·rw [if_pos c31] at H
           have c31b0 : decide ((ji29) < (t188.size : Int)) = true := decide_eq_true c31
           clear c31
           by_cases c33 : (bt t188 (ji29)) = 101
           ·rw [if_pos c33] at H
            have c33b0 : ((bt t188 (ji29)) == 101) = true := beq_iff_eq.mpr c33
            have c33b1 : ((bt t188 (ji29)) != 101) = false := bne_eq_false_iff_eq.mpr c33
            clear c33
            by_cases c34 : a0_2 = 1
            ·rw [if_pos c34] at H
             have c34b0 : (a0_2 == 1) = true := beq_iff_eq.mpr c34
             have c34b1 : (a0_2 != 1) = false := bne_eq_false_iff_eq.mpr c34
             clear c34
             by_cases c35 : x3_3.size + 3 ≤ 9223372036854775807
             ·rw [if_pos c35] at H
              have c35b0 := eq_true c35
              have c35b1 : decide (x3_3.size + 3 ≤ 9223372036854775807) = true := decide_eq_true c35
              try have c35b2 : (9223372036854775807 < x3_3.size + 3) = False := eq_false (Nat.not_lt.2 c35)
              obtain rfl := Option.some.inj H
              obtain ⟨Ao36, co36, eo36⟩ := Kd.R_slice HO_5.out
              subst eo36
              have hcz37_0 : wr.cell? ⟨gb179, 0, none⟩ = some (.int .i64 a0_0) := (blk_cell BK179.out 0).trans rfl
              have hcz37_1 : wr.cell? ⟨gb179, 1, none⟩ = some (.int .i64 a0_1) := (blk_cell BK179.out 1).trans rfl
              have hcz37_2 : wr.cell? ⟨gb179, 2, none⟩ = some (.int .i64 a0_2) := (blk_cell BK179.out 2).trans rfl
              have hcz37_3 : wr.cell? ⟨gb179, 3, none⟩ = some (.int .i64 a0_3) := (blk_cell BK179.out 3).trans rfl
              have hcz37_4 : wr.cell? ⟨gb179, 4, none⟩ = some (.int .i64 a0_4) := (blk_cell BK179.out 4).trans rfl
              have hcz37_5 : wr.cell? ⟨gb179, 5, none⟩ = some (.int .i64 a0_5) := (blk_cell BK179.out 5).trans rfl
              have hcz37_6 : wr.cell? ⟨gb179, 6, none⟩ = some (.int .i32 a0_6) := (blk_cell BK179.out 6).trans rfl
              have hcz37_7 : wr.cell? ⟨gb179, 7, none⟩ = some (.slice A0_7 l0_7.length c0_7) := (blk_cell BK179.out 7).trans rfl
              have hfz37_0 := blk_frozen BK179.out 0
              have hfz37_1 := blk_frozen BK179.out 1
              have hfz37_2 := blk_frozen BK179.out 2
              have hfz37_3 := blk_frozen BK179.out 3
              have hfz37_4 := blk_frozen BK179.out 4
              have hfz37_5 := blk_frozen BK179.out 5
              have hfz37_6 := blk_frozen BK179.out 6
              have hfz37_7 := blk_frozen BK179.out 7
              go_wp2_with (first | ((with_reducible refine gate_callee (f := 50) rfl ?_); refine goesL_ (some 45) rfl rfl Tryd.func50 (by kernel_rfl) rfl #[.int .i64 a0_0] rfl (by (try simp only [List.map_toArray, List.map_cons, List.map_nil]); first | done | rfl | (simp only [List.length_drop, List.length_take]; rfl)) ?_; (with_reducible refine (jacquardref18_Fields.calls k3 a0_0 t188 _ A28.out).mono ?_); rintro e w' ⟨rfl, ⟨nd, rfl⟩⟩; refine ⟨_, rfl, ?_⟩; have p32 : 0 ≤ ((ji29) : Int) := of_decide_eq_true (by first | (with_reducible assumption) | assumption); have q32 : (ji29) < (t188.size : Int) := of_decide_eq_true (by first | (with_reducible assumption) | assumption); have hx32 := bt_at t188 (ji29); replace p32 := eq_true p32; replace q32 := eq_true q32))
              go_ret
              exact ⟨by first | rfl | (simp [errW_none, errW_some] <;> rfl) | (simp only [← hji29]; first | rfl | (simp [errW_none, errW_some] <;> rfl)) | (simp [*, errW_none, errW_some] <;> rfl), by repeat (first | (with_reducible first | exact HB.out | apply below_alloc | apply pw_below_drewN | apply below_drew1 | refine below_set ?_ GE179.out) | exact HB.out)⟩
             ·rw [if_neg c35] at H
              exact absurd H (by simp)
            ·rw [if_neg c34] at H
             have c34b0 : (a0_2 == 1) = false := beq_eq_false_iff_ne.mpr c34
             have c34b1 : (a0_2 != 1) = true := bne_iff_ne.mpr c34
             obtain rfl := Option.some.inj H
             obtain ⟨Ao38, co38, eo38⟩ := Kd.R_slice HO_5.out
             subst eo38
             have hcz39_0 : wr.cell? ⟨gb179, 0, none⟩ = some (.int .i64 a0_0) := (blk_cell BK179.out 0).trans rfl
             have hcz39_1 : wr.cell? ⟨gb179, 1, none⟩ = some (.int .i64 a0_1) := (blk_cell BK179.out 1).trans rfl
             have hcz39_2 : wr.cell? ⟨gb179, 2, none⟩ = some (.int .i64 a0_2) := (blk_cell BK179.out 2).trans rfl
             have hcz39_3 : wr.cell? ⟨gb179, 3, none⟩ = some (.int .i64 a0_3) := (blk_cell BK179.out 3).trans rfl
             have hcz39_4 : wr.cell? ⟨gb179, 4, none⟩ = some (.int .i64 a0_4) := (blk_cell BK179.out 4).trans rfl
             have hcz39_5 : wr.cell? ⟨gb179, 5, none⟩ = some (.int .i64 a0_5) := (blk_cell BK179.out 5).trans rfl
             have hcz39_6 : wr.cell? ⟨gb179, 6, none⟩ = some (.int .i32 a0_6) := (blk_cell BK179.out 6).trans rfl
             have hcz39_7 : wr.cell? ⟨gb179, 7, none⟩ = some (.slice A0_7 l0_7.length c0_7) := (blk_cell BK179.out 7).trans rfl
             have hfz39_0 := blk_frozen BK179.out 0
             have hfz39_1 := blk_frozen BK179.out 1
             have hfz39_2 := blk_frozen BK179.out 2
             have hfz39_3 := blk_frozen BK179.out 3
             have hfz39_4 := blk_frozen BK179.out 4
             have hfz39_5 := blk_frozen BK179.out 5
             have hfz39_6 := blk_frozen BK179.out 6
             have hfz39_7 := blk_frozen BK179.out 7
             go_wp2_with (first | ((with_reducible refine gate_callee (f := 50) rfl ?_); refine goesL_ (some 45) rfl rfl Tryd.func50 (by kernel_rfl) rfl #[.int .i64 a0_0] rfl (by (try simp only [List.map_toArray, List.map_cons, List.map_nil]); first | done | rfl | (simp only [List.length_drop, List.length_take]; rfl)) ?_; (with_reducible refine (jacquardref18_Fields.calls k3 a0_0 t188 _ A28.out).mono ?_); rintro e w' ⟨rfl, ⟨nd, rfl⟩⟩; refine ⟨_, rfl, ?_⟩; have p32 : 0 ≤ ((ji29) : Int) := of_decide_eq_true (by first | (with_reducible assumption) | assumption); have q32 : (ji29) < (t188.size : Int) := of_decide_eq_true (by first | (with_reducible assumption) | assumption); have hx32 := bt_at t188 (ji29); replace p32 := eq_true p32; replace q32 := eq_true q32))
             go_ret
             exact ⟨by first | rfl | (simp [errW_none, errW_some] <;> rfl) | (simp only [← hji29]; first | rfl | (simp [errW_none, errW_some] <;> rfl)) | (simp [*, errW_none, errW_some] <;> rfl), by repeat (first | (with_reducible first | exact HB.out | apply below_alloc | apply pw_below_drewN | apply below_drew1 | refine below_set ?_ GE179.out) | exact HB.out)⟩
           ·rw [if_neg c33] at H
            have c33b0 : ((bt t188 (ji29)) == 101) = false := beq_eq_false_iff_ne.mpr c33
            have c33b1 : ((bt t188 (ji29)) != 101) = true := bne_iff_ne.mpr c33
            by_cases c40 : (bt t188 (ji29)) = 116
            ·rw [if_pos c40] at H
             have c40b0 : ((bt t188 (ji29)) == 116) = true := beq_iff_eq.mpr c40
             have c40b1 : ((bt t188 (ji29)) != 116) = false := bne_eq_false_iff_eq.mpr c40
             clear c40
             have H' := Aside0.mk H
             clear H
             obtain ⟨Ao41, co41, eo41⟩ := Kd.R_slice HO_5.out
             subst eo41
             have hcz42_0 : wr.cell? ⟨gb179, 0, none⟩ = some (.int .i64 a0_0) := (blk_cell BK179.out 0).trans rfl
             have hcz42_1 : wr.cell? ⟨gb179, 1, none⟩ = some (.int .i64 a0_1) := (blk_cell BK179.out 1).trans rfl
             have hcz42_2 : wr.cell? ⟨gb179, 2, none⟩ = some (.int .i64 a0_2) := (blk_cell BK179.out 2).trans rfl
             have hcz42_3 : wr.cell? ⟨gb179, 3, none⟩ = some (.int .i64 a0_3) := (blk_cell BK179.out 3).trans rfl
             have hcz42_4 : wr.cell? ⟨gb179, 4, none⟩ = some (.int .i64 a0_4) := (blk_cell BK179.out 4).trans rfl
             have hcz42_5 : wr.cell? ⟨gb179, 5, none⟩ = some (.int .i64 a0_5) := (blk_cell BK179.out 5).trans rfl
             have hcz42_6 : wr.cell? ⟨gb179, 6, none⟩ = some (.int .i32 a0_6) := (blk_cell BK179.out 6).trans rfl
             have hcz42_7 : wr.cell? ⟨gb179, 7, none⟩ = some (.slice A0_7 l0_7.length c0_7) := (blk_cell BK179.out 7).trans rfl
             have hfz42_0 := blk_frozen BK179.out 0
             have hfz42_1 := blk_frozen BK179.out 1
             have hfz42_2 := blk_frozen BK179.out 2
             have hfz42_3 := blk_frozen BK179.out 3
             have hfz42_4 := blk_frozen BK179.out 4
             have hfz42_5 := blk_frozen BK179.out 5
             have hfz42_6 := blk_frozen BK179.out 6
             have hfz42_7 := blk_frozen BK179.out 7
             go_wp2_with (first | ((with_reducible refine gate_callee (f := 50) rfl ?_); refine goesL_ (some 45) rfl rfl Tryd.func50 (by kernel_rfl) rfl #[.int .i64 a0_0] rfl (by (try simp only [List.map_toArray, List.map_cons, List.map_nil]); first | done | rfl | (simp only [List.length_drop, List.length_take]; rfl)) ?_; (with_reducible refine (jacquardref18_Fields.calls k3 a0_0 t188 _ A28.out).mono ?_); rintro e w' ⟨rfl, ⟨nd, rfl⟩⟩; refine ⟨_, rfl, ?_⟩; have p32 : 0 ≤ ((ji29) : Int) := of_decide_eq_true (by first | (with_reducible assumption) | assumption); have q32 : (ji29) < (t188.size : Int) := of_decide_eq_true (by first | (with_reducible assumption) | assumption); have hx32 := bt_at t188 (ji29); replace p32 := eq_true p32; replace q32 := eq_true q32))
             go_loopg [3, 9] k3 (fun kq v3 v9 w' => ∃ (x3_4 : ByteArray) (x9_4 : Int), v3 = .string x3_4 ∧ v9 = .int .i64 x9_4 ∧ Aside0 (jacquardref18_Text.l1 kq x3_4 x9_4 a0_0 a0_1 a0_2 a0_3 a0_4 a0_5 a0_6 l0_7 = some r) ∧ Aside0 (kq ≤ k3) ∧ Aside0 (w'.heap[gb179]? = some (.cells #[.int .i64 a0_0, .int .i64 a0_1, .int .i64 a0_2, .int .i64 a0_3, .int .i64 a0_4, .int .i64 a0_5, .int .i32 a0_6, (.slice A0_7 l0_7.length c0_7)] 24 (0, 0))) ∧ Aside0 (Below w.heap.size w w'))
             case atStart => exact ⟨(x3_3), (0), (by first | rfl | (simp; done) | (simp [*]; done)), (by first | rfl | (simp; done) | (simp [*]; done)), H', ⟨Nat.le_refl _⟩, ⟨by (with_reducible repeat (first | refine blk_drewN ?_ _ | refine blk_drew ?_ | refine blk_alloc ?_ _)); exact BK179.out⟩, ⟨by repeat (first | (with_reducible first | exact HB.out | apply below_alloc | apply pw_below_drewN | apply below_drew1 | refine below_set ?_ GE179.out) | exact HB.out)⟩⟩
             case round =>
              clear H'
              try clear c1
              try clear p1
              try clear q1
              try clear hx1
              try clear c2
              try clear p2
              try clear c3
              try clear p3
              try clear q3
              try clear hx3
              try clear c4
              try clear c5
              try clear p6
              try clear c13
              try clear c16
              try clear c17
              try clear c17b0
              try clear c17b1
              try clear c17b2
              try clear p18
              try clear q18
              try clear hx18
              try clear c21
              try clear c21b0
              try clear c22
              try clear c22b0
              try clear c22b1
              try clear c22b2
              try clear c23
              try clear c23b0
              try clear c25
              try clear c25b0
              try clear c25b1
              try clear c25b2
              try clear c30
              try clear c30b0
              try clear c31
              try clear c31b0
              try clear p32
              try clear q32
              try clear hx32
              try clear c33
              try clear c33b0
              try clear c33b1
              try clear c34
              try clear c34b0
              try clear c34b1
              try clear c35
              try clear c35b0
              try clear c35b1
              try clear c35b2
              try clear c40
              try clear c40b0
              try clear c40b1
              try clear hcz10_0
              try clear hcz10_1
              try clear hcz10_2
              try clear hcz10_3
              try clear hcz10_4
              try clear hcz10_5
              try clear hcz10_6
              try clear hcz10_7
              try clear hcz12_0
              try clear hcz12_1
              try clear hcz12_2
              try clear hcz12_3
              try clear hcz12_4
              try clear hcz12_5
              try clear hcz12_6
              try clear hcz12_7
              try clear hcz14_0
              try clear hcz14_1
              try clear hcz14_2
              try clear hcz14_3
              try clear hcz14_4
              try clear hcz14_5
              try clear hcz14_6
              try clear hcz14_7
              try clear hcz19_0
              try clear hcz19_1
              try clear hcz19_2
              try clear hcz19_3
              try clear hcz19_4
              try clear hcz19_5
              try clear hcz19_6
              try clear hcz19_7
              try clear hcz37_0
              try clear hcz37_1
              try clear hcz37_2
              try clear hcz37_3
              try clear hcz37_4
              try clear hcz37_5
              try clear hcz37_6
              try clear hcz37_7
              try clear hcz39_0
              try clear hcz39_1
              try clear hcz39_2
              try clear hcz39_3
              try clear hcz39_4
              try clear hcz39_5
              try clear hcz39_6
              try clear hcz39_7
              try clear hcz42_0
              try clear hcz42_1
              try clear hcz42_2
              try clear hcz42_3
              try clear hcz42_4
              try clear hcz42_5
              try clear hcz42_6
              try clear hcz42_7
              try clear hcz8_0
              try clear hcz8_1
              try clear hcz8_2
              try clear hcz8_3
              try clear hcz8_4
              try clear hcz8_5
              try clear hcz8_6
              try clear hcz8_7
              try clear hfz10_0
              try clear hfz10_1
              try clear hfz10_2
              try clear hfz10_3
              try clear hfz10_4
              try clear hfz10_5
              try clear hfz10_6
              try clear hfz10_7
              try clear hfz12_0
              try clear hfz12_1
              try clear hfz12_2
              try clear hfz12_3
              try clear hfz12_4
              try clear hfz12_5
              try clear hfz12_6
              try clear hfz12_7
              try clear hfz14_0
              try clear hfz14_1
              try clear hfz14_2
              try clear hfz14_3
              try clear hfz14_4
              try clear hfz14_5
              try clear hfz14_6
              try clear hfz14_7
              try clear hfz19_0
              try clear hfz19_1
              try clear hfz19_2
              try clear hfz19_3
              try clear hfz19_4
              try clear hfz19_5
              try clear hfz19_6
              try clear hfz19_7
              try clear hfz37_0
              try clear hfz37_1
              try clear hfz37_2
              try clear hfz37_3
              try clear hfz37_4
              try clear hfz37_5
              try clear hfz37_6
              try clear hfz37_7
              try clear hfz39_0
              try clear hfz39_1
              try clear hfz39_2
              try clear hfz39_3
              try clear hfz39_4
              try clear hfz39_5
              try clear hfz39_6
              try clear hfz39_7
              try clear hfz42_0
              try clear hfz42_1
              try clear hfz42_2
              try clear hfz42_3
              try clear hfz42_4
              try clear hfz42_5
              try clear hfz42_6
              try clear hfz42_7
              try clear hfz8_0
              try clear hfz8_1
              try clear hfz8_2
              try clear hfz8_3
              try clear hfz8_4
              try clear hfz8_5
              try clear hfz8_6
              try clear hfz8_7
              try clear hx186_0
              try clear p186
              try clear p2
              try clear p32
              try clear q186
              try clear q32
              obtain ⟨x3_4, x9_4, rfl, rfl, HA, HK4, BK179, HB⟩ := hrel
              cases gk with
              | zero => exact absurd HA.out (by simp [jacquardref18_Text.l1])
              | succ k4 =>
               have H := HA.out
               clear HA
               simp only [jacquardref18_Text.l1] at H
               by_cases c43 : x9_4 < (l0_7.length : Int)
               ·rw [if_pos c43] at H
                have c43b0 : decide (x9_4 < (l0_7.length : Int)) = true := decide_eq_true c43
                clear c43
                by_cases c44 : x3_4.size + 1 ≤ 9223372036854775807
                ·rw [if_pos c44] at H
                 have c44b0 := eq_true c44
                 have c44b1 : decide (x3_4.size + 1 ≤ 9223372036854775807) = true := decide_eq_true c44
                 try have c44b2 : (9223372036854775807 < x3_4.size + 1) = False := eq_false (Nat.not_lt.2 c44)
                 by_cases c45 : 0 ≤ x9_4
                 ·rw [if_pos c45] at H
                  have c45b0 : decide (0 ≤ x9_4) = true := decide_eq_true c45
                  clear c45
                  replace H := Option.bind_eq_some_iff.mp H
                  obtain ⟨t190, A460, H⟩ := H
                  replace H : (if (x3_4 ++ (⟨#[32]⟩ : ByteArray)).size + t190.size ≤ 9223372036854775807 then (jacquardref18_Text.l1 k4 ((x3_4 ++ (⟨#[32]⟩ : ByteArray)) ++ t190) (wrap64 (x9_4 + 1)) a0_0 a0_1 a0_2 a0_3 a0_4 a0_5 a0_6 l0_7) else (none)) = some r := H
                  have A46 := Aside0.mk A460
                  clear A460
                  by_cases c47 : (x3_4 ++ (⟨#[32]⟩ : ByteArray)).size + t190.size ≤ 9223372036854775807
                  ·rw [if_pos c47] at H
                   have c47b0 := eq_true c47
                   have c47b1 : decide ((x3_4 ++ (⟨#[32]⟩ : ByteArray)).size + t190.size ≤ 9223372036854775807) = true := decide_eq_true c47
                   try have c47b2 : (9223372036854775807 < (x3_4 ++ (⟨#[32]⟩ : ByteArray)).size + t190.size) = False := eq_false (Nat.not_lt.2 c47)
                   have c47b3 : (9223372036854775807 < x3_4.size + 1 + t190.size) = False := eq_false (by have h := c47; simp only [ByteArray.size_append] at h; exact Nat.not_lt.2 h)
                   have c47b4 : (x3_4.size + 1 + t190.size ≤ 9223372036854775807) = True := eq_true (by have h := c47; simp only [ByteArray.size_append] at h; exact h)
                   have H' := Aside0.mk H
                   clear H
                   have hcz48_0 : wr.cell? ⟨gb179, 0, none⟩ = some (.int .i64 a0_0) := (blk_cell BK179.out 0).trans rfl
                   have hcz48_1 : wr.cell? ⟨gb179, 1, none⟩ = some (.int .i64 a0_1) := (blk_cell BK179.out 1).trans rfl
                   have hcz48_2 : wr.cell? ⟨gb179, 2, none⟩ = some (.int .i64 a0_2) := (blk_cell BK179.out 2).trans rfl
                   have hcz48_3 : wr.cell? ⟨gb179, 3, none⟩ = some (.int .i64 a0_3) := (blk_cell BK179.out 3).trans rfl
                   have hcz48_4 : wr.cell? ⟨gb179, 4, none⟩ = some (.int .i64 a0_4) := (blk_cell BK179.out 4).trans rfl
                   have hcz48_5 : wr.cell? ⟨gb179, 5, none⟩ = some (.int .i64 a0_5) := (blk_cell BK179.out 5).trans rfl
                   have hcz48_6 : wr.cell? ⟨gb179, 6, none⟩ = some (.int .i32 a0_6) := (blk_cell BK179.out 6).trans rfl
                   have hcz48_7 : wr.cell? ⟨gb179, 7, none⟩ = some (.slice A0_7 l0_7.length c0_7) := (blk_cell BK179.out 7).trans rfl
                   have hfz48_0 := blk_frozen BK179.out 0
                   have hfz48_1 := blk_frozen BK179.out 1
                   have hfz48_2 := blk_frozen BK179.out 2
                   have hfz48_3 := blk_frozen BK179.out 3
                   have hfz48_4 := blk_frozen BK179.out 4
                   have hfz48_5 := blk_frozen BK179.out 5
                   have hfz48_6 := blk_frozen BK179.out 6
                   have hfz48_7 := blk_frozen BK179.out 7
                   have p189 : 0 ≤ (x9_4 : Int) := of_decide_eq_true (by first | (with_reducible assumption) | assumption)
                   have q189 : x9_4 < (l0_7.length : Int) := of_decide_eq_true (by first | (with_reducible assumption) | assumption)
                   obtain ⟨ad189, e189, hx189_0⟩ := Kd.at_int HR0_7.out x9_4 p189 q189
                   cases e189
                   replace hx189_0 := (HB.out.cell (World.block_lt_of_cell? w _ hx189_0)).trans hx189_0
                   replace p189 := eq_true p189
                   replace q189 := eq_true q189
                   go_wp2_with (first | ((with_reducible refine gate_callee (f := 56) rfl ?_); refine goesL_ (some 76) rfl rfl Tryd.func56 (by kernel_rfl) rfl #[.int .i64 (rd l0_7 x9_4)] rfl (by (try simp only [List.map_toArray, List.map_cons, List.map_nil]); first | done | rfl | (simp only [List.length_drop, List.length_take]; rfl)) ?_; (with_reducible refine (jacquardref18_whole.calls k4 (rd l0_7 x9_4) t190 _ A46.out).mono ?_); rintro e w49 ⟨rfl, hb⟩; refine ⟨_, rfl, ?_⟩; have n0_ := Aside0.mk (blk_below (g := gb179) (o := .cells #[.int .i64 a0_0, .int .i64 a0_1, .int .i64 a0_2, .int .i64 a0_3, .int .i64 a0_4, .int .i64 a0_5, .int .i32 a0_6, .slice (some ad189) l0_7.length c0_7] 24 (0, 0)) (by (with_reducible repeat (first | refine blk_drewN ?_ _ | refine blk_drew ?_ | refine blk_alloc ?_ _)); exact BK179.out) hb); have n1_ := Aside0.mk (below_step (by repeat (first | (with_reducible first | exact HB.out | apply below_alloc | apply pw_below_drewN | apply below_drew1 | refine below_set ?_ GE179.out) | exact HB.out)) hb); clear BK179; clear HB; have BK179 := n0_; have HB := n1_; clear n0_ n1_; (try clear hb); (try clear hb2); (try clear hk); (try clear hi)))
                   go_roundg k4
                   case measure => have := HJ5.out; have := HJ14.out; have := HK3.out; have := HK4.out; omega
                   case rel => exact ⟨((x3_4 ++ (⟨#[32]⟩ : ByteArray)) ++ t190), (wrap64 (x9_4 + 1)), (by first | rfl | (simp; done) | (simp [*]; done)), (by first | rfl | (simp; done) | (simp [*]; done)), H', ⟨by have := HJ5.out; have := HJ14.out; have := HK3.out; have := HK4.out; omega⟩, ⟨by (with_reducible repeat (first | refine blk_drewN ?_ _ | refine blk_drew ?_ | refine blk_alloc ?_ _)); exact BK179.out⟩, ⟨by repeat (first | (with_reducible first | exact HB.out | apply below_alloc | apply pw_below_drewN | apply below_drew1 | refine below_set ?_ GE179.out) | exact HB.out)⟩⟩
                  ·rw [if_neg c47] at H
                   exact absurd H (by simp)
                 ·rw [if_neg c45] at H
                  exact absurd H (by simp)
                ·rw [if_neg c44] at H
                 exact absurd H (by simp)
               ·rw [if_neg c43] at H
                have c43b0 : decide (x9_4 < (l0_7.length : Int)) = false := decide_eq_false c43
                clear c43
                obtain rfl := Option.some.inj H
                have hcz50_0 : wr.cell? ⟨gb179, 0, none⟩ = some (.int .i64 a0_0) := (blk_cell BK179.out 0).trans rfl
                have hcz50_1 : wr.cell? ⟨gb179, 1, none⟩ = some (.int .i64 a0_1) := (blk_cell BK179.out 1).trans rfl
                have hcz50_2 : wr.cell? ⟨gb179, 2, none⟩ = some (.int .i64 a0_2) := (blk_cell BK179.out 2).trans rfl
                have hcz50_3 : wr.cell? ⟨gb179, 3, none⟩ = some (.int .i64 a0_3) := (blk_cell BK179.out 3).trans rfl
                have hcz50_4 : wr.cell? ⟨gb179, 4, none⟩ = some (.int .i64 a0_4) := (blk_cell BK179.out 4).trans rfl
                have hcz50_5 : wr.cell? ⟨gb179, 5, none⟩ = some (.int .i64 a0_5) := (blk_cell BK179.out 5).trans rfl
                have hcz50_6 : wr.cell? ⟨gb179, 6, none⟩ = some (.int .i32 a0_6) := (blk_cell BK179.out 6).trans rfl
                have hcz50_7 : wr.cell? ⟨gb179, 7, none⟩ = some (.slice A0_7 l0_7.length c0_7) := (blk_cell BK179.out 7).trans rfl
                have hfz50_0 := blk_frozen BK179.out 0
                have hfz50_1 := blk_frozen BK179.out 1
                have hfz50_2 := blk_frozen BK179.out 2
                have hfz50_3 := blk_frozen BK179.out 3
                have hfz50_4 := blk_frozen BK179.out 4
                have hfz50_5 := blk_frozen BK179.out 5
                have hfz50_6 := blk_frozen BK179.out 6
                have hfz50_7 := blk_frozen BK179.out 7
                go_wp2
                go_ret
                exact ⟨by first | rfl | (simp [errW_none, errW_some] <;> rfl) | (simp only [← hji29]; first | rfl | (simp [errW_none, errW_some] <;> rfl)) | (simp [*, errW_none, errW_some] <;> rfl), by repeat (first | (with_reducible first | exact HB.out | apply below_alloc | apply pw_below_drewN | apply below_drew1 | refine below_set ?_ GE179.out) | exact HB.out)⟩
            ·rw [if_neg c40] at H
             have c40b0 : ((bt t188 (ji29)) == 116) = false := beq_eq_false_iff_ne.mpr c40
             have c40b1 : ((bt t188 (ji29)) != 116) = true := bne_iff_ne.mpr c40
             by_cases c51 : a0_0 = 28
             ·rw [if_pos c51] at H
              have c51b0 : (a0_0 == 28) = true := beq_iff_eq.mpr c51
              have c51b1 : (a0_0 != 28) = false := bne_eq_false_iff_eq.mpr c51
              clear c51
              by_cases c52 : x3_3.size + 1 ≤ 9223372036854775807
              ·rw [if_pos c52] at H
               have c52b0 := eq_true c52
               have c52b1 : decide (x3_3.size + 1 ≤ 9223372036854775807) = true := decide_eq_true c52
               try have c52b2 : (9223372036854775807 < x3_3.size + 1) = False := eq_false (Nat.not_lt.2 c52)
               replace H := Option.bind_eq_some_iff.mp H
               obtain ⟨t191, A530, H⟩ := H
               replace H : (if (x3_3 ++ (⟨#[32]⟩ : ByteArray)).size + t191.size ≤ 9223372036854775807 then (if ((x3_3 ++ (⟨#[32]⟩ : ByteArray)) ++ t191).size + 1 ≤ 9223372036854775807 then ((jacquardref18_digits.f k3 (wrap64 (a0_6))).bind fun t192 => (if (((x3_3 ++ (⟨#[32]⟩ : ByteArray)) ++ t191) ++ (⟨#[32]⟩ : ByteArray)).size + t192.size ≤ 9223372036854775807 then (some ((((x3_3 ++ (⟨#[32]⟩ : ByteArray)) ++ t191) ++ (⟨#[32]⟩ : ByteArray)) ++ t192)) else (none))) else (none)) else (none)) = some r := H
               have A53 := Aside0.mk A530
               clear A530
               by_cases c54 : (x3_3 ++ (⟨#[32]⟩ : ByteArray)).size + t191.size ≤ 9223372036854775807
               ·rw [if_pos c54] at H
                have c54b0 := eq_true c54
                have c54b1 : decide ((x3_3 ++ (⟨#[32]⟩ : ByteArray)).size + t191.size ≤ 9223372036854775807) = true := decide_eq_true c54
                try have c54b2 : (9223372036854775807 < (x3_3 ++ (⟨#[32]⟩ : ByteArray)).size + t191.size) = False := eq_false (Nat.not_lt.2 c54)
                have c54b3 : (9223372036854775807 < x3_3.size + 1 + t191.size) = False := eq_false (by have h := c54; simp only [ByteArray.size_append] at h; exact Nat.not_lt.2 h)
                have c54b4 : (x3_3.size + 1 + t191.size ≤ 9223372036854775807) = True := eq_true (by have h := c54; simp only [ByteArray.size_append] at h; exact h)
                by_cases c55 : ((x3_3 ++ (⟨#[32]⟩ : ByteArray)) ++ t191).size + 1 ≤ 9223372036854775807
                ·rw [if_pos c55] at H
                 have c55b0 := eq_true c55
                 have c55b1 : decide (((x3_3 ++ (⟨#[32]⟩ : ByteArray)) ++ t191).size + 1 ≤ 9223372036854775807) = true := decide_eq_true c55
                 try have c55b2 : (9223372036854775807 < ((x3_3 ++ (⟨#[32]⟩ : ByteArray)) ++ t191).size + 1) = False := eq_false (Nat.not_lt.2 c55)
                 have c55b3 : (9223372036854775807 < x3_3.size + 1 + t191.size + 1) = False := eq_false (by have h := c55; simp only [ByteArray.size_append] at h; exact Nat.not_lt.2 h)
                 have c55b4 : (x3_3.size + 1 + t191.size + 1 ≤ 9223372036854775807) = True := eq_true (by have h := c55; simp only [ByteArray.size_append] at h; exact h)
                 replace H := Option.bind_eq_some_iff.mp H
                 obtain ⟨t192, A560, H⟩ := H
                 replace H : (if (((x3_3 ++ (⟨#[32]⟩ : ByteArray)) ++ t191) ++ (⟨#[32]⟩ : ByteArray)).size + t192.size ≤ 9223372036854775807 then (some ((((x3_3 ++ (⟨#[32]⟩ : ByteArray)) ++ t191) ++ (⟨#[32]⟩ : ByteArray)) ++ t192)) else (none)) = some r := H
                 have A56 := Aside0.mk A560
                 clear A560
                 by_cases c57 : (((x3_3 ++ (⟨#[32]⟩ : ByteArray)) ++ t191) ++ (⟨#[32]⟩ : ByteArray)).size + t192.size ≤ 9223372036854775807
                 ·rw [if_pos c57] at H
                  have c57b0 := eq_true c57
                  have c57b1 : decide ((((x3_3 ++ (⟨#[32]⟩ : ByteArray)) ++ t191) ++ (⟨#[32]⟩ : ByteArray)).size + t192.size ≤ 9223372036854775807) = true := decide_eq_true c57
                  try have c57b2 : (9223372036854775807 < (((x3_3 ++ (⟨#[32]⟩ : ByteArray)) ++ t191) ++ (⟨#[32]⟩ : ByteArray)).size + t192.size) = False := eq_false (Nat.not_lt.2 c57)
                  have c57b3 : (9223372036854775807 < x3_3.size + 1 + t191.size + 1 + t192.size) = False := eq_false (by have h := c57; simp only [ByteArray.size_append] at h; exact Nat.not_lt.2 h)
                  have c57b4 : (x3_3.size + 1 + t191.size + 1 + t192.size ≤ 9223372036854775807) = True := eq_true (by have h := c57; simp only [ByteArray.size_append] at h; exact h)
                  obtain rfl := Option.some.inj H
                  obtain ⟨Ao58, co58, eo58⟩ := Kd.R_slice HO_5.out
                  subst eo58
                  have hcz59_0 : wr.cell? ⟨gb179, 0, none⟩ = some (.int .i64 a0_0) := (blk_cell BK179.out 0).trans rfl
                  have hcz59_1 : wr.cell? ⟨gb179, 1, none⟩ = some (.int .i64 a0_1) := (blk_cell BK179.out 1).trans rfl
                  have hcz59_2 : wr.cell? ⟨gb179, 2, none⟩ = some (.int .i64 a0_2) := (blk_cell BK179.out 2).trans rfl
                  have hcz59_3 : wr.cell? ⟨gb179, 3, none⟩ = some (.int .i64 a0_3) := (blk_cell BK179.out 3).trans rfl
                  have hcz59_4 : wr.cell? ⟨gb179, 4, none⟩ = some (.int .i64 a0_4) := (blk_cell BK179.out 4).trans rfl
                  have hcz59_5 : wr.cell? ⟨gb179, 5, none⟩ = some (.int .i64 a0_5) := (blk_cell BK179.out 5).trans rfl
                  have hcz59_6 : wr.cell? ⟨gb179, 6, none⟩ = some (.int .i32 a0_6) := (blk_cell BK179.out 6).trans rfl
                  have hcz59_7 : wr.cell? ⟨gb179, 7, none⟩ = some (.slice A0_7 l0_7.length c0_7) := (blk_cell BK179.out 7).trans rfl
                  have hfz59_0 := blk_frozen BK179.out 0
                  have hfz59_1 := blk_frozen BK179.out 1
                  have hfz59_2 := blk_frozen BK179.out 2
                  have hfz59_3 := blk_frozen BK179.out 3
                  have hfz59_4 := blk_frozen BK179.out 4
                  have hfz59_5 := blk_frozen BK179.out 5
                  have hfz59_6 := blk_frozen BK179.out 6
                  have hfz59_7 := blk_frozen BK179.out 7
                  try go_wp2_with (first | ((with_reducible refine gate_callee (f := 50) rfl ?_); refine goesL_ (some 45) rfl rfl Tryd.func50 (by kernel_rfl) rfl #[.int .i64 a0_0] rfl (by (try simp only [List.map_toArray, List.map_cons, List.map_nil]); first | done | rfl | (simp only [List.length_drop, List.length_take]; rfl)) ?_; (with_reducible refine (jacquardref18_Fields.calls k3 a0_0 t188 _ A28.out).mono ?_); rintro e w' ⟨rfl, ⟨nd, rfl⟩⟩; refine ⟨_, rfl, ?_⟩; have p32 : 0 ≤ ((ji29) : Int) := of_decide_eq_true (by first | (with_reducible assumption) | assumption); have q32 : (ji29) < (t188.size : Int) := of_decide_eq_true (by first | (with_reducible assumption) | assumption); have hx32 := bt_at t188 (ji29); replace p32 := eq_true p32; replace q32 := eq_true q32))
                  (try (rw [drewN_self wr]; generalize hq_ : World.drewN wr _ = wr; have n0_ : Aside0 (Kd.R (Kd.int .i64) 3 wr w.heap.size (fun _ => True) (.slice Ao58 t183.length co58) t183) := ⟨by rw [← hq_]; exact (by (with_reducible repeat (first | apply Kd.R_alloc | apply Kd.R_drewN | apply Kd.R_drew)); exact HO_5.out)⟩; have n1_ : Aside0 (wr.heap[gb179]? = some (.cells #[.int .i64 a0_0, .int .i64 a0_1, .int .i64 a0_2, .int .i64 a0_3, .int .i64 a0_4, .int .i64 a0_5, .int .i32 a0_6, .slice A0_7 l0_7.length c0_7] 24 (0, 0))) := ⟨by rw [← hq_]; exact (by (with_reducible repeat (first | refine blk_drewN ?_ _ | refine blk_drew ?_ | refine blk_alloc ?_ _)); exact BK179.out)⟩; have n2_ : Aside0 (Below w.heap.size w wr) := ⟨by rw [← hq_]; exact (by repeat (first | (with_reducible first | exact HB.out | apply below_alloc | apply pw_below_drewN | apply below_drew1 | refine below_set ?_ GE179.out) | exact HB.out))⟩; clear HO_5 BK179 HB hq_; have HO_5 := n0_; have BK179 := n1_; have HB := n2_; clear n0_ n1_ n2_))
                  have n0_ := Aside0.mk (Kd.R_drew HO_5.out)
                  have n1_ := Aside0.mk (blk_drew BK179.out)
                  have n2_ := Aside0.mk (below_drew1 HB.out)
                  clear HO_5
                  clear BK179
                  clear HB
                  have HO_5 := n0_
                  have BK179 := n1_
                  have HB := n2_
                  clear n0_ n1_ n2_
                  refine start_ (n := 14) (S := fun w' => w'.cell? ⟨gb179, 0, none⟩ = some (.int .i64 a0_0) ∧ w'.cell? ⟨gb179, 1, none⟩ = some (.int .i64 a0_1) ∧ w'.cell? ⟨gb179, 2, none⟩ = some (.int .i64 a0_2) ∧ w'.cell? ⟨gb179, 3, none⟩ = some (.int .i64 a0_3) ∧ w'.cell? ⟨gb179, 4, none⟩ = some (.int .i64 a0_4) ∧ w'.cell? ⟨gb179, 5, none⟩ = some (.int .i64 a0_5) ∧ w'.cell? ⟨gb179, 6, none⟩ = some (.int .i32 a0_6) ∧ w'.cell? ⟨gb179, 7, none⟩ = some (.slice A0_7 l0_7.length c0_7)) (ds := []) #[false, false, false, false, false, false, false, false, false, false, false, false, false, false] (by kernel_rfl) rfl rfl ⟨(blk_cell BK179.out 0).trans rfl, (blk_cell BK179.out 1).trans rfl, (blk_cell BK179.out 2).trans rfl, (blk_cell BK179.out 3).trans rfl, (blk_cell BK179.out 4).trans rfl, (blk_cell BK179.out 5).trans rfl, (blk_cell BK179.out 6).trans rfl, (blk_cell BK179.out 7).trans rfl⟩ (fun hHeld => ?_); refine with_tabW jacquardref18_Text.tab23 jacquardref18_Text.bits23 (fun HT_ HW_ => ?_)
                  generalize wr.drew = w60 at HO_5 BK179 HB hHeld ⊢
                  refine pure_ (i := 0) (N := some 82) (v := ?_) (a' := ?_) #[true, false, false, false, false, false, false, false, false, false, false, false, false, false] rfl rfl (any_of HT_.out (by kernel_rfl)) (fun _ _ _ h => h) (Or.inl ⟨by rfl, ?_⟩) ?_ ?_
                  rotate_left
                  ·intro w'
                   go_simp
                   with_reducible rfl
                  rotate_left
                  ·simp only [Act.put, List.setIfInBounds_toArray, List.set_cons_zero, List.set_cons_succ, i64_w, i32_w]
                   rfl
                  refine pure_ (i := 1) (N := some 83) (v := ?_) (a' := ?_) #[true, true, false, false, false, false, false, false, false, false, false, false, false, false] rfl rfl (any_of HT_.out (by kernel_rfl)) (fun _ _ _ h => h) (Or.inl ⟨by rfl, ?_⟩) ?_ ?_
                  rotate_left
                  ·intro w'
                   go_simp
                   with_reducible rfl
                  rotate_left
                  ·simp only [Act.put, List.setIfInBounds_toArray, List.set_cons_zero, List.set_cons_succ, i64_w, i32_w]
                   rfl
                  refine pure_ (i := 2) (N := some 84) (v := ?_) (a' := ?_) #[true, true, true, false, false, false, false, false, false, false, false, false, false, false] rfl rfl (any_of HT_.out (by kernel_rfl)) (fun _ _ _ h => h) (Or.inl ⟨by rfl, ?_⟩) ?_ ?_
                  rotate_left
                  ·intro w'
                   go_simp
                   with_reducible rfl
                  rotate_left
                  ·simp only [Act.put, List.setIfInBounds_toArray, List.set_cons_zero, List.set_cons_succ, i64_w, i32_w]
                   rfl
                  refine pure_ (i := 8) (N := some 90) (v := ?_) (a' := ?_) #[true, true, true, false, false, false, false, false, true, false, false, false, false, false] rfl rfl (any_of HT_.out (by kernel_rfl)) (fun _ _ _ h => h) (Or.inl ⟨by rfl, ?_⟩) ?_ ?_
                  rotate_left
                  ·intro w'
                   go_simp
                   with_reducible rfl
                  rotate_left
                  ·simp only [Act.put, List.setIfInBounds_toArray, List.set_cons_zero, List.set_cons_succ, i64_w, i32_w]
                   rfl
                  refine take_ (i := 3) (N := some 85) (v := ?_) (a' := ?_) #[true, true, true, true, false, false, false, false, true, false, false, false, false, false] rfl rfl (take_ofW HT_.out HW_.out (by kernel_rfl)) (fun _ _ _ h => h) (Or.inl ⟨by rfl, ?_⟩) hHeld ?_ ?_
                  rotate_left
                  ·rintro w' ⟨s0, s1, s2, s3, s4, s5, s6, s7⟩
                   go_simp
                   with_reducible rfl
                  rotate_left
                  ·simp only [Act.put, List.setIfInBounds_toArray, List.set_cons_zero, List.set_cons_succ, i64_w, i32_w]
                   rfl
                  refine pure_ (i := 4) (N := some 86) (v := ?_) (a' := ?_) #[true, true, true, true, true, false, false, false, true, false, false, false, false, false] rfl rfl (any_of HT_.out (by kernel_rfl)) (fun _ _ _ h => h) (Or.inl ⟨by rfl, ?_⟩) ?_ ?_
                  rotate_left
                  ·intro w'
                   go_simp
                   with_reducible rfl
                  rotate_left
                  ·simp only [Act.put, List.setIfInBounds_toArray, List.set_cons_zero, List.set_cons_succ, i64_w, i32_w]
                   rfl
                  refine take_ (i := 9) (N := some 91) (v := ?_) (a' := ?_) #[true, true, true, true, true, false, false, false, true, true, false, false, false, false] rfl rfl (take_ofW HT_.out HW_.out (by kernel_rfl)) (fun _ _ _ h => h) (Or.inl ⟨by rfl, ?_⟩) hHeld ?_ ?_
                  rotate_left
                  ·rintro w' ⟨s0, s1, s2, s3, s4, s5, s6, s7⟩
                   go_simp
                   with_reducible rfl
                  rotate_left
                  ·simp only [Act.put, List.setIfInBounds_toArray, List.set_cons_zero, List.set_cons_succ, i64_w, i32_w]
                   rfl
                  refine pure_ (i := 10) (N := some 92) (v := ?_) (a' := ?_) #[true, true, true, true, true, false, false, false, true, true, true, false, false, false] rfl rfl (any_of HT_.out (by kernel_rfl)) (fun _ _ _ h => h) (Or.inl ⟨by rfl, ?_⟩) ?_ ?_
                  rotate_left
                  ·intro w'
                   go_simp
                   with_reducible rfl
                  rotate_left
                  ·simp only [Act.put, List.setIfInBounds_toArray, List.set_cons_zero, List.set_cons_succ, i64_w, i32_w]
                   rfl
                  refine one_ (i := 5) (N := some 87) #[true, true, true, true, true, true, false, false, true, true, true, false, false, false] rfl rfl (one_of HT_.out (by kernel_rfl)) (by decide) (fun K hK => ?_)
                  refine goes_ Tryd.func57 (by kernel_rfl) rfl #[.int .i64 (l0_7.length : Int)] (by rfl) rfl rfl (by (try simp only [List.map_toArray, List.map_cons, List.map_nil]); first | done | rfl | (simp only [List.length_drop, List.length_take]; rfl)) ?_
                  with_reducible refine (jacquardref18_digits.calls k3 (l0_7.length : Int) t191 _ A53.out).mono ?_
                  rintro e w61 ⟨rfl, hb⟩
                  refine ⟨_, rfl, ?_⟩
                  have n0_ := Aside0.mk (Kd.R_below (by (with_reducible repeat (first | apply Kd.R_alloc | apply Kd.R_drewN | apply Kd.R_drew)); exact HO_5.out) hb)
                  have n1_ := Aside0.mk (blk_below (g := gb179) (o := .cells #[.int .i64 a0_0, .int .i64 a0_1, .int .i64 a0_2, .int .i64 a0_3, .int .i64 a0_4, .int .i64 a0_5, .int .i32 a0_6, .slice A0_7 l0_7.length c0_7] 24 (0, 0)) (by (with_reducible repeat (first | refine blk_drewN ?_ _ | refine blk_drew ?_ | refine blk_alloc ?_ _)); exact BK179.out) hb)
                  have n2_ := Aside0.mk (below_step (by repeat (first | (with_reducible first | exact HB.out | apply below_alloc | apply pw_below_drewN | apply below_drew1 | refine below_set ?_ GE179.out) | exact HB.out)) hb)
                  clear HO_5
                  clear BK179
                  clear HB
                  have HO_5 := n0_
                  have BK179 := n1_
                  have HB := n2_
                  clear n0_ n1_ n2_
                  (try clear hb)
                  (try clear hb2)
                  (try clear hk)
                  (try clear hi)
                  refine hK.out _ _ ⟨(blk_cell BK179.out 0).trans rfl, (blk_cell BK179.out 1).trans rfl, (blk_cell BK179.out 2).trans rfl, (blk_cell BK179.out 3).trans rfl, (blk_cell BK179.out 4).trans rfl, (blk_cell BK179.out 5).trans rfl, (blk_cell BK179.out 6).trans rfl, (blk_cell BK179.out 7).trans rfl⟩ (fun hHeld => ?_)
                  clear hK K
                  refine norm_ (a' := ?_) ?_ ?_
                  rotate_left
                  ·show Act.put _ (some 87) _ = _
                   simp only [Act.put, List.setIfInBounds_toArray, List.set_cons_zero, List.set_cons_succ, i64_w, i32_w]
                   rfl
                  refine pure_ (i := 6) (N := some 88) (v := ?_) (a' := ?_) #[true, true, true, true, true, true, true, false, true, true, true, false, false, false] rfl rfl (any_of HT_.out (by kernel_rfl)) (fun _ _ _ h => h) (Or.inl ⟨by rfl, ?_⟩) ?_ ?_
                  rotate_left
                  ·intro w'
                   go_simp
                   with_reducible rfl
                  rotate_left
                  ·simp only [Act.put, List.setIfInBounds_toArray, List.set_cons_zero, List.set_cons_succ, i64_w, i32_w]
                   rfl
                  refine pure_ (i := 7) (N := some 89) (v := ?_) (a' := ?_) #[true, true, true, true, true, true, true, true, true, true, true, false, false, false] rfl rfl (any_of HT_.out (by kernel_rfl)) (fun _ _ _ h => h) (Or.inl ⟨by rfl, ?_⟩) ?_ ?_
                  rotate_left
                  ·intro w'
                   go_simp
                   with_reducible rfl
                  rotate_left
                  ·simp only [Act.put, List.setIfInBounds_toArray, List.set_cons_zero, List.set_cons_succ, i64_w, i32_w]
                   rfl
                  refine one_ (i := 11) (N := some 93) #[true, true, true, true, true, true, true, true, true, true, true, true, false, false] rfl rfl (one_of HT_.out (by kernel_rfl)) (by decide) (fun K hK => ?_)
                  refine goes_ Tryd.func57 (by kernel_rfl) rfl #[.int .i64 (wrap64 (a0_6))] (by rfl) rfl rfl (by (try simp only [List.map_toArray, List.map_cons, List.map_nil]); first | done | rfl | (simp only [List.length_drop, List.length_take]; rfl)) ?_
                  with_reducible refine (jacquardref18_digits.calls k3 (wrap64 (a0_6)) t192 _ A56.out).mono ?_
                  rintro e w62 ⟨rfl, hb⟩
                  refine ⟨_, rfl, ?_⟩
                  have n0_ := Aside0.mk (Kd.R_below (by (with_reducible repeat (first | apply Kd.R_alloc | apply Kd.R_drewN | apply Kd.R_drew)); exact HO_5.out) hb)
                  have n1_ := Aside0.mk (blk_below (g := gb179) (o := .cells #[.int .i64 a0_0, .int .i64 a0_1, .int .i64 a0_2, .int .i64 a0_3, .int .i64 a0_4, .int .i64 a0_5, .int .i32 a0_6, .slice A0_7 l0_7.length c0_7] 24 (0, 0)) (by (with_reducible repeat (first | refine blk_drewN ?_ _ | refine blk_drew ?_ | refine blk_alloc ?_ _)); exact BK179.out) hb)
                  have n2_ := Aside0.mk (below_step (by repeat (first | (with_reducible first | exact HB.out | apply below_alloc | apply pw_below_drewN | apply below_drew1 | refine below_set ?_ GE179.out) | exact HB.out)) hb)
                  clear HO_5
                  clear BK179
                  clear HB
                  have HO_5 := n0_
                  have BK179 := n1_
                  have HB := n2_
                  clear n0_ n1_ n2_
                  (try clear hb)
                  (try clear hb2)
                  (try clear hk)
                  (try clear hi)
                  refine hK.out _ _ ⟨(blk_cell BK179.out 0).trans rfl, (blk_cell BK179.out 1).trans rfl, (blk_cell BK179.out 2).trans rfl, (blk_cell BK179.out 3).trans rfl, (blk_cell BK179.out 4).trans rfl, (blk_cell BK179.out 5).trans rfl, (blk_cell BK179.out 6).trans rfl, (blk_cell BK179.out 7).trans rfl⟩ (fun hHeld => ?_)
                  clear hK K
                  refine norm_ (a' := ?_) ?_ ?_
                  rotate_left
                  ·show Act.put _ (some 93) _ = _
                   simp only [Act.put, List.setIfInBounds_toArray, List.set_cons_zero, List.set_cons_succ, i64_w, i32_w]
                   rfl
                  refine pure_ (i := 12) (N := some 94) (v := ?_) (a' := ?_) #[true, true, true, true, true, true, true, true, true, true, true, true, true, false] rfl rfl (any_of HT_.out (by kernel_rfl)) (fun _ _ _ h => h) (Or.inl ⟨by rfl, ?_⟩) ?_ ?_
                  rotate_left
                  ·intro w'
                   go_simp
                   with_reducible rfl
                  rotate_left
                  ·simp only [Act.put, List.setIfInBounds_toArray, List.set_cons_zero, List.set_cons_succ, i64_w, i32_w]
                   rfl
                  refine pure_ (i := 13) (N := some 3) (v := ?_) (a' := ?_) #[true, true, true, true, true, true, true, true, true, true, true, true, true, true] rfl rfl (any_of HT_.out (by kernel_rfl)) (fun _ _ _ h => h) (Or.inl ⟨by rfl, ?_⟩) ?_ ?_
                  rotate_left
                  ·intro w'
                   go_simp
                   with_reducible rfl
                  rotate_left
                  ·simp only [Act.put, List.setIfInBounds_toArray, List.set_cons_zero, List.set_cons_succ, i64_w, i32_w]
                   rfl
                  refine done_ (done_of HT_.out (by kernel_rfl)) ?_
                  try go_wp2
                  go_ret
                  exact ⟨by first | rfl | (simp [errW_none, errW_some] <;> rfl) | (simp only [← hji29]; first | rfl | (simp [errW_none, errW_some] <;> rfl)) | (simp [*, errW_none, errW_some] <;> rfl), by repeat (first | (with_reducible first | exact HB.out | apply below_alloc | apply pw_below_drewN | apply below_drew1 | refine below_set ?_ GE179.out) | exact HB.out)⟩
                 ·rw [if_neg c57] at H
                  exact absurd H (by simp)
                ·rw [if_neg c55] at H
                 exact absurd H (by simp)
               ·rw [if_neg c54] at H
                exact absurd H (by simp)
              ·rw [if_neg c52] at H
               exact absurd H (by simp)
             ·rw [if_neg c51] at H
              have c51b0 : (a0_0 == 28) = false := beq_eq_false_iff_ne.mpr c51
              have c51b1 : (a0_0 != 28) = true := bne_iff_ne.mpr c51
              replace H := Option.bind_eq_some_iff.mp H
              obtain ⟨⟨t193, t194, t195⟩, A630, H⟩ := H
              replace H : (if t193 > 0 then (if x3_3.size + 1 ≤ 9223372036854775807 then ((jacquardref18_digits.f k3 (wrap64 (a0_6))).bind fun t196 => (if (x3_3 ++ (⟨#[32]⟩ : ByteArray)).size + t196.size ≤ 9223372036854775807 then (some ((x3_3 ++ (⟨#[32]⟩ : ByteArray)) ++ t196)) else (none))) else (none)) else (some x3_3)) = some r := H
              have A63 := Aside0.mk A630
              clear A630
              by_cases c64 : t193 > 0
              ·rw [if_pos c64] at H
               have c64b0 : decide (0 < t193) = true := decide_eq_true c64
               clear c64
               by_cases c65 : x3_3.size + 1 ≤ 9223372036854775807
               ·rw [if_pos c65] at H
                have c65b0 := eq_true c65
                have c65b1 : decide (x3_3.size + 1 ≤ 9223372036854775807) = true := decide_eq_true c65
                try have c65b2 : (9223372036854775807 < x3_3.size + 1) = False := eq_false (Nat.not_lt.2 c65)
                replace H := Option.bind_eq_some_iff.mp H
                obtain ⟨t196, A660, H⟩ := H
                replace H : (if (x3_3 ++ (⟨#[32]⟩ : ByteArray)).size + t196.size ≤ 9223372036854775807 then (some ((x3_3 ++ (⟨#[32]⟩ : ByteArray)) ++ t196)) else (none)) = some r := H
                have A66 := Aside0.mk A660
                clear A660
                by_cases c67 : (x3_3 ++ (⟨#[32]⟩ : ByteArray)).size + t196.size ≤ 9223372036854775807
                ·rw [if_pos c67] at H
                 have c67b0 := eq_true c67
                 have c67b1 : decide ((x3_3 ++ (⟨#[32]⟩ : ByteArray)).size + t196.size ≤ 9223372036854775807) = true := decide_eq_true c67
                 try have c67b2 : (9223372036854775807 < (x3_3 ++ (⟨#[32]⟩ : ByteArray)).size + t196.size) = False := eq_false (Nat.not_lt.2 c67)
                 have c67b3 : (9223372036854775807 < x3_3.size + 1 + t196.size) = False := eq_false (by have h := c67; simp only [ByteArray.size_append] at h; exact Nat.not_lt.2 h)
                 have c67b4 : (x3_3.size + 1 + t196.size ≤ 9223372036854775807) = True := eq_true (by have h := c67; simp only [ByteArray.size_append] at h; exact h)
                 obtain rfl := Option.some.inj H
                 obtain ⟨Ao68, co68, eo68⟩ := Kd.R_slice HO_5.out
                 subst eo68
                 have hcz69_0 : wr.cell? ⟨gb179, 0, none⟩ = some (.int .i64 a0_0) := (blk_cell BK179.out 0).trans rfl
                 have hcz69_1 : wr.cell? ⟨gb179, 1, none⟩ = some (.int .i64 a0_1) := (blk_cell BK179.out 1).trans rfl
                 have hcz69_2 : wr.cell? ⟨gb179, 2, none⟩ = some (.int .i64 a0_2) := (blk_cell BK179.out 2).trans rfl
                 have hcz69_3 : wr.cell? ⟨gb179, 3, none⟩ = some (.int .i64 a0_3) := (blk_cell BK179.out 3).trans rfl
                 have hcz69_4 : wr.cell? ⟨gb179, 4, none⟩ = some (.int .i64 a0_4) := (blk_cell BK179.out 4).trans rfl
                 have hcz69_5 : wr.cell? ⟨gb179, 5, none⟩ = some (.int .i64 a0_5) := (blk_cell BK179.out 5).trans rfl
                 have hcz69_6 : wr.cell? ⟨gb179, 6, none⟩ = some (.int .i32 a0_6) := (blk_cell BK179.out 6).trans rfl
                 have hcz69_7 : wr.cell? ⟨gb179, 7, none⟩ = some (.slice A0_7 l0_7.length c0_7) := (blk_cell BK179.out 7).trans rfl
                 have hfz69_0 := blk_frozen BK179.out 0
                 have hfz69_1 := blk_frozen BK179.out 1
                 have hfz69_2 := blk_frozen BK179.out 2
                 have hfz69_3 := blk_frozen BK179.out 3
                 have hfz69_4 := blk_frozen BK179.out 4
                 have hfz69_5 := blk_frozen BK179.out 5
                 have hfz69_6 := blk_frozen BK179.out 6
                 have hfz69_7 := blk_frozen BK179.out 7
                 go_wp2_with (first | ((with_reducible refine gate_callee (f := 50) rfl ?_); refine goesL_ (some 45) rfl rfl Tryd.func50 (by kernel_rfl) rfl #[.int .i64 a0_0] rfl (by (try simp only [List.map_toArray, List.map_cons, List.map_nil]); first | done | rfl | (simp only [List.length_drop, List.length_take]; rfl)) ?_; (with_reducible refine (jacquardref18_Fields.calls k3 a0_0 t188 _ A28.out).mono ?_); rintro e w' ⟨rfl, ⟨nd, rfl⟩⟩; refine ⟨_, rfl, ?_⟩; have p32 : 0 ≤ ((ji29) : Int) := of_decide_eq_true (by first | (with_reducible assumption) | assumption); have q32 : (ji29) < (t188.size : Int) := of_decide_eq_true (by first | (with_reducible assumption) | assumption); have hx32 := bt_at t188 (ji29); replace p32 := eq_true p32; replace q32 := eq_true q32) | ((with_reducible refine gate_callee (f := 51) rfl ?_); refine goesL_ (some 97) rfl rfl Tryd.func51 (by kernel_rfl) rfl #[.int .u8 (bt t188 (ji29)), .bool false] rfl (by (try simp only [List.map_toArray, List.map_cons, List.map_nil]); first | done | (simp only [hji29]; rfl) | rfl | (simp only [List.length_drop, List.length_take]; rfl)) ?_; (with_reducible refine (jacquardref18_Of.calls (bt t188 (ji29)) false t193 t194 t195 _ A63.out).mono ?_); rintro e w70 ⟨rfl, hb⟩; refine ⟨_, rfl, ?_⟩; have n0_ := Aside0.mk (Kd.R_below (by (with_reducible repeat (first | apply Kd.R_alloc | apply Kd.R_drewN | apply Kd.R_drew)); exact HO_5.out) hb); have n1_ := Aside0.mk (blk_below (g := gb179) (o := .cells #[.int .i64 a0_0, .int .i64 a0_1, .int .i64 a0_2, .int .i64 a0_3, .int .i64 a0_4, .int .i64 a0_5, .int .i32 a0_6, .slice A0_7 l0_7.length c0_7] 24 (0, 0)) (by (with_reducible repeat (first | refine blk_drewN ?_ _ | refine blk_drew ?_ | refine blk_alloc ?_ _)); exact BK179.out) hb); have n2_ := Aside0.mk (below_step (by repeat (first | (with_reducible first | exact HB.out | apply below_alloc | apply pw_below_drewN | apply below_drew1 | refine below_set ?_ GE179.out) | exact HB.out)) hb); clear HO_5; clear BK179; clear HB; have HO_5 := n0_; have BK179 := n1_; have HB := n2_; clear n0_ n1_ n2_; (try clear hb); (try clear hb2); (try clear hk); (try clear hi); have hcz71_0 : w70.cell? ⟨gb179, 0, none⟩ = some (.int .i64 a0_0) := (blk_cell BK179.out 0).trans rfl; have hcz71_1 : w70.cell? ⟨gb179, 1, none⟩ = some (.int .i64 a0_1) := (blk_cell BK179.out 1).trans rfl; have hcz71_2 : w70.cell? ⟨gb179, 2, none⟩ = some (.int .i64 a0_2) := (blk_cell BK179.out 2).trans rfl; have hcz71_3 : w70.cell? ⟨gb179, 3, none⟩ = some (.int .i64 a0_3) := (blk_cell BK179.out 3).trans rfl; have hcz71_4 : w70.cell? ⟨gb179, 4, none⟩ = some (.int .i64 a0_4) := (blk_cell BK179.out 4).trans rfl; have hcz71_5 : w70.cell? ⟨gb179, 5, none⟩ = some (.int .i64 a0_5) := (blk_cell BK179.out 5).trans rfl; have hcz71_6 : w70.cell? ⟨gb179, 6, none⟩ = some (.int .i32 a0_6) := (blk_cell BK179.out 6).trans rfl; have hcz71_7 : w70.cell? ⟨gb179, 7, none⟩ = some (.slice A0_7 l0_7.length c0_7) := (blk_cell BK179.out 7).trans rfl; have hfz71_0 := blk_frozen BK179.out 0; have hfz71_1 := blk_frozen BK179.out 1; have hfz71_2 := blk_frozen BK179.out 2; have hfz71_3 := blk_frozen BK179.out 3; have hfz71_4 := blk_frozen BK179.out 4; have hfz71_5 := blk_frozen BK179.out 5; have hfz71_6 := blk_frozen BK179.out 6; have hfz71_7 := blk_frozen BK179.out 7) | ((with_reducible refine gate_callee (f := 57) rfl ?_); refine goesL_ (some 105) rfl rfl Tryd.func57 (by kernel_rfl) rfl #[.int .i64 (wrap64 (a0_6))] rfl (by (try simp only [List.map_toArray, List.map_cons, List.map_nil]); first | done | rfl | (simp only [List.length_drop, List.length_take]; rfl)) ?_; (with_reducible refine (jacquardref18_digits.calls k3 (wrap64 (a0_6)) t196 _ A66.out).mono ?_); rintro e w72 ⟨rfl, hb⟩; refine ⟨_, rfl, ?_⟩; have n0_ := Aside0.mk (Kd.R_below (by (with_reducible repeat (first | apply Kd.R_alloc | apply Kd.R_drewN | apply Kd.R_drew)); exact HO_5.out) hb); have n1_ := Aside0.mk (blk_below (g := gb179) (o := .cells #[.int .i64 a0_0, .int .i64 a0_1, .int .i64 a0_2, .int .i64 a0_3, .int .i64 a0_4, .int .i64 a0_5, .int .i32 a0_6, .slice A0_7 l0_7.length c0_7] 24 (0, 0)) (by (with_reducible repeat (first | refine blk_drewN ?_ _ | refine blk_drew ?_ | refine blk_alloc ?_ _)); exact BK179.out) hb); have n2_ := Aside0.mk (below_step (by repeat (first | (with_reducible first | exact HB.out | apply below_alloc | apply pw_below_drewN | apply below_drew1 | refine below_set ?_ GE179.out) | exact HB.out)) hb); clear HO_5; clear BK179; clear HB; have HO_5 := n0_; have BK179 := n1_; have HB := n2_; clear n0_ n1_ n2_; (try clear hb); (try clear hb2); (try clear hk); (try clear hi)))
                 go_ret
                 exact ⟨by first | rfl | (simp [errW_none, errW_some] <;> rfl) | (simp only [← hji29]; first | rfl | (simp [errW_none, errW_some] <;> rfl)) | (simp [*, errW_none, errW_some] <;> rfl), by repeat (first | (with_reducible first | exact HB.out | apply below_alloc | apply pw_below_drewN | apply below_drew1 | refine below_set ?_ GE179.out) | exact HB.out)⟩
                ·rw [if_neg c67] at H
                 exact absurd H (by simp)
               ·rw [if_neg c65] at H
                exact absurd H (by simp)
              ·rw [if_neg c64] at H
               have c64b0 : decide (0 < t193) = false := decide_eq_false c64
               clear c64
               obtain rfl := Option.some.inj H
               obtain ⟨Ao73, co73, eo73⟩ := Kd.R_slice HO_5.out
               subst eo73
               have hcz74_0 : wr.cell? ⟨gb179, 0, none⟩ = some (.int .i64 a0_0) := (blk_cell BK179.out 0).trans rfl
               have hcz74_1 : wr.cell? ⟨gb179, 1, none⟩ = some (.int .i64 a0_1) := (blk_cell BK179.out 1).trans rfl
               have hcz74_2 : wr.cell? ⟨gb179, 2, none⟩ = some (.int .i64 a0_2) := (blk_cell BK179.out 2).trans rfl
               have hcz74_3 : wr.cell? ⟨gb179, 3, none⟩ = some (.int .i64 a0_3) := (blk_cell BK179.out 3).trans rfl
               have hcz74_4 : wr.cell? ⟨gb179, 4, none⟩ = some (.int .i64 a0_4) := (blk_cell BK179.out 4).trans rfl
               have hcz74_5 : wr.cell? ⟨gb179, 5, none⟩ = some (.int .i64 a0_5) := (blk_cell BK179.out 5).trans rfl
               have hcz74_6 : wr.cell? ⟨gb179, 6, none⟩ = some (.int .i32 a0_6) := (blk_cell BK179.out 6).trans rfl
               have hcz74_7 : wr.cell? ⟨gb179, 7, none⟩ = some (.slice A0_7 l0_7.length c0_7) := (blk_cell BK179.out 7).trans rfl
               have hfz74_0 := blk_frozen BK179.out 0
               have hfz74_1 := blk_frozen BK179.out 1
               have hfz74_2 := blk_frozen BK179.out 2
               have hfz74_3 := blk_frozen BK179.out 3
               have hfz74_4 := blk_frozen BK179.out 4
               have hfz74_5 := blk_frozen BK179.out 5
               have hfz74_6 := blk_frozen BK179.out 6
               have hfz74_7 := blk_frozen BK179.out 7
               go_wp2_with (first | ((with_reducible refine gate_callee (f := 50) rfl ?_); refine goesL_ (some 45) rfl rfl Tryd.func50 (by kernel_rfl) rfl #[.int .i64 a0_0] rfl (by (try simp only [List.map_toArray, List.map_cons, List.map_nil]); first | done | rfl | (simp only [List.length_drop, List.length_take]; rfl)) ?_; (with_reducible refine (jacquardref18_Fields.calls k3 a0_0 t188 _ A28.out).mono ?_); rintro e w' ⟨rfl, ⟨nd, rfl⟩⟩; refine ⟨_, rfl, ?_⟩; have p32 : 0 ≤ ((ji29) : Int) := of_decide_eq_true (by first | (with_reducible assumption) | assumption); have q32 : (ji29) < (t188.size : Int) := of_decide_eq_true (by first | (with_reducible assumption) | assumption); have hx32 := bt_at t188 (ji29); replace p32 := eq_true p32; replace q32 := eq_true q32) | ((with_reducible refine gate_callee (f := 51) rfl ?_); refine goesL_ (some 97) rfl rfl Tryd.func51 (by kernel_rfl) rfl #[.int .u8 (bt t188 (ji29)), .bool false] rfl (by (try simp only [List.map_toArray, List.map_cons, List.map_nil]); first | done | (simp only [hji29]; rfl) | rfl | (simp only [List.length_drop, List.length_take]; rfl)) ?_; (with_reducible refine (jacquardref18_Of.calls (bt t188 (ji29)) false t193 t194 t195 _ A63.out).mono ?_); rintro e w75 ⟨rfl, hb⟩; refine ⟨_, rfl, ?_⟩; have n0_ := Aside0.mk (Kd.R_below (by (with_reducible repeat (first | apply Kd.R_alloc | apply Kd.R_drewN | apply Kd.R_drew)); exact HO_5.out) hb); have n1_ := Aside0.mk (blk_below (g := gb179) (o := .cells #[.int .i64 a0_0, .int .i64 a0_1, .int .i64 a0_2, .int .i64 a0_3, .int .i64 a0_4, .int .i64 a0_5, .int .i32 a0_6, .slice A0_7 l0_7.length c0_7] 24 (0, 0)) (by (with_reducible repeat (first | refine blk_drewN ?_ _ | refine blk_drew ?_ | refine blk_alloc ?_ _)); exact BK179.out) hb); have n2_ := Aside0.mk (below_step (by repeat (first | (with_reducible first | exact HB.out | apply below_alloc | apply pw_below_drewN | apply below_drew1 | refine below_set ?_ GE179.out) | exact HB.out)) hb); clear HO_5; clear BK179; clear HB; have HO_5 := n0_; have BK179 := n1_; have HB := n2_; clear n0_ n1_ n2_; (try clear hb); (try clear hb2); (try clear hk); (try clear hi)))
               go_ret
               exact ⟨by first | rfl | (simp [errW_none, errW_some] <;> rfl) | (simp only [← hji29]; first | rfl | (simp [errW_none, errW_some] <;> rfl)) | (simp [*, errW_none, errW_some] <;> rfl), by repeat (first | (with_reducible first | exact HB.out | apply below_alloc | apply pw_below_drewN | apply below_drew1 | refine below_set ?_ GE179.out) | exact HB.out)⟩
          ·rw [if_neg c31] at H
           exact absurd H (by simp)
         ·rw [if_neg c30] at H
          exact absurd H (by simp)
 ·replace c3 := Bool.eq_false_iff.mpr c3
  subst c3
  have H1 : (some (⟨#[]⟩ : ByteArray)) = some r := by rw [if_neg (show ¬ (false = true) by decide)] at H; exact H
  clear H
  have H := H1
  clear H1
  obtain rfl := Option.some.inj H
  go_enter Tryd.func23, Tryd.ntmps23
  go_wp2_with (first | ((with_reducible refine gate_dst (N := 1) rfl ?_); refine box_event ?hg (N := 1) ?hd (cs := #[.int .i64 a0_0, .int .i64 a0_1, .int .i64 a0_2, .int .i64 a0_3, .int .i64 a0_4, .int .i64 a0_5, .int .i32 a0_6, .slice A0_7 l0_7.length c0_7]) (t := 24) ?hr ?_; (case hd => rfl); (case hg => rfl); (case hr => first | (go_simp; done) | (go_simp; rfl)); intro gb179 hg w76 hbox hb; have n0_ := Aside0.mk (below_step (by repeat (first | (with_reducible first | exact HB.out | apply below_alloc | apply pw_below_drewN | apply below_drew1) | exact HB.out)) hb); have n1_ := Aside0.mk (hbox); have n2_ := Aside0.mk ((by rw [hg]; exact (below_size (by repeat (first | (with_reducible first | exact HB.out | apply below_alloc | apply pw_below_drewN | apply below_drew1) | exact HB.out))) : w.heap.size ≤ gb179)); have n3_ := Aside0.mk ((by rw [hg]; exact (below_size (by repeat (first | (with_reducible first | exact HB.out | apply below_alloc | apply pw_below_drewN | apply below_drew1) | exact HB.out))) : w.heap.size ≤ gb179)); clear HB; have HB := n0_; have BK179 := n1_; have GW179 := n2_; have GE179 := n3_; clear n0_ n1_ n2_ n3_; clear hb hbox hg; have hcz77_0 : w76.cell? ⟨gb179, 0, none⟩ = some (.int .i64 a0_0) := (blk_cell BK179.out 0).trans rfl; have hcz77_1 : w76.cell? ⟨gb179, 1, none⟩ = some (.int .i64 a0_1) := (blk_cell BK179.out 1).trans rfl; have hcz77_2 : w76.cell? ⟨gb179, 2, none⟩ = some (.int .i64 a0_2) := (blk_cell BK179.out 2).trans rfl; have hcz77_3 : w76.cell? ⟨gb179, 3, none⟩ = some (.int .i64 a0_3) := (blk_cell BK179.out 3).trans rfl; have hcz77_4 : w76.cell? ⟨gb179, 4, none⟩ = some (.int .i64 a0_4) := (blk_cell BK179.out 4).trans rfl; have hcz77_5 : w76.cell? ⟨gb179, 5, none⟩ = some (.int .i64 a0_5) := (blk_cell BK179.out 5).trans rfl; have hcz77_6 : w76.cell? ⟨gb179, 6, none⟩ = some (.int .i32 a0_6) := (blk_cell BK179.out 6).trans rfl; have hcz77_7 : w76.cell? ⟨gb179, 7, none⟩ = some (.slice A0_7 l0_7.length c0_7) := (blk_cell BK179.out 7).trans rfl; have hfz77_0 := blk_frozen BK179.out 0; have hfz77_1 := blk_frozen BK179.out 1; have hfz77_2 := blk_frozen BK179.out 2; have hfz77_3 := blk_frozen BK179.out 3; have hfz77_4 := blk_frozen BK179.out 4; have hfz77_5 := blk_frozen BK179.out 5; have hfz77_6 := blk_frozen BK179.out 6; have hfz77_7 := blk_frozen BK179.out 7) | ((with_reducible refine gate_callee (f := 46) rfl ?_); refine goesL_ (some 11) rfl rfl Tryd.func46 (by kernel_rfl) rfl #[.agg #[.int .i64 a0_0, .int .i64 a0_1, .int .i64 a0_2, .int .i64 a0_3, .int .i64 a0_4, .int .i64 a0_5, .int .i32 a0_6, .slice A0_7 l0_7.length c0_7]] rfl (by (try simp only [List.map_toArray, List.map_cons, List.map_nil]); first | done | rfl | (simp only [List.length_drop, List.length_take]; rfl)) ?_; (with_reducible refine (jacquardref18_Shape.calls k a0_0 a0_1 a0_2 a0_3 a0_4 a0_5 a0_6 _ _ l0_7 false _ ?side1 ?side2 A2.out).mono ?_); (case side1 => repeat (first | exact (Kd.C_below HR0_7.out HB.out) | (with_reducible refine Kd.C_alloc ?_ _) | (with_reducible refine Kd.C_drewN ?_ _) | (with_reducible refine Kd.C_drew ?_))); (case side2 => exact HC0_7.out); rintro e w78 ⟨rfl, hb⟩; refine ⟨_, rfl, ?_⟩; have n0_ := Aside0.mk (blk_below (g := gb179) (o := .cells #[.int .i64 a0_0, .int .i64 a0_1, .int .i64 a0_2, .int .i64 a0_3, .int .i64 a0_4, .int .i64 a0_5, .int .i32 a0_6, .slice A0_7 l0_7.length c0_7] 24 (0, 0)) (by (with_reducible repeat (first | refine blk_drewN ?_ _ | refine blk_drew ?_ | refine blk_alloc ?_ _)); exact BK179.out) hb); have n1_ := Aside0.mk (below_step (by repeat (first | (with_reducible first | exact HB.out | apply below_alloc | apply pw_below_drewN | apply below_drew1 | refine below_set ?_ GE179.out) | exact HB.out)) hb); clear BK179; clear HB; have BK179 := n0_; have HB := n1_; clear n0_ n1_; (try clear hb); (try clear hb2); (try clear hk); (try clear hi)))
  go_ret
  exact ⟨by first | rfl | (simp [errW_none, errW_some] <;> rfl) | (simp [*, errW_none, errW_some] <;> rfl), by repeat (first | (with_reducible first | exact HB.out | apply below_alloc | apply pw_below_drewN | apply below_drew1 | refine below_set ?_ GE179.out) | exact HB.out)⟩

end Go.Proofs.YtmoplcchiadlpaaDoor.S
