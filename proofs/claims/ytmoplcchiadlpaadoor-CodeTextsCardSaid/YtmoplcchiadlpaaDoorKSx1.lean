import Derived.Test.YtmoplcchiadlpaaDoorKSx0
namespace Go.Proofs.YtmoplcchiadlpaaDoor.S
open Go.RowKit Go.Proofs.YtmoplcchiadlpaaDoorW.PrintWords Go.Proofs.YtmoplcchiadlpaaDoorW.PrintLast Go.Proofs.YtmoplcchiadlpaaDoorW.PrintMore
attribute [local go_sem] max2_int min2_int max_two min_two max_three min_three max_four min_four   -- for this text's walks alone
set_option linter.unusedVariables false
set_option linter.unusedSimpArgs false

/-! ### jacquardref18_Fields: function 50 -/
mutual
def jacquardref18_Fields.j0 : Nat → Int → Bool → Option (ByteArray)
 | 0, _, _ => none
 | k + 1, x0, x8 => if x8 = true then (some (⟨#[68, 65, 66]⟩ : ByteArray)) else (if x0 ≥ 43 then (jacquardref18_Fields.j1 k x0 (decide (x0 ≤ 48))) else (jacquardref18_Fields.j1 k x0 false))
def jacquardref18_Fields.j1 : Nat → Int → Bool → Option (ByteArray)
 | 0, _, _ => none
 | k + 1, x0, x14 => if x14 = true then (some (⟨#[65, 66, 98]⟩ : ByteArray)) else (if x0 = 1 then (some (⟨#[68, 65]⟩ : ByteArray)) else (if x0 = 2 then (jacquardref18_Fields.j2 k x0 (x0 == 2)) else (jacquardref18_Fields.j2 k x0 (x0 == 29))))
def jacquardref18_Fields.j2 : Nat → Int → Bool → Option (ByteArray)
 | 0, _, _ => none
 | k + 1, x15, x18 => if x18 = true then (some (⟨#[65, 66]⟩ : ByteArray)) else (if x15 = 3 then (some (⟨#[68, 104]⟩ : ByteArray)) else (if x15 = 4 then (some (⟨#[68, 119]⟩ : ByteArray)) else (if x15 = 18 then (jacquardref18_Fields.j3 k x15 (x15 == 18)) else (jacquardref18_Fields.j3 k x15 (x15 == 19)))))
def jacquardref18_Fields.j3 : Nat → Int → Bool → Option (ByteArray)
 | 0, _, _ => none
 | k + 1, x15, x25 => if x25 = true then (some (⟨#[68, 65, 105]⟩ : ByteArray)) else (if x15 = 20 then (jacquardref18_Fields.j4 k x15 (x15 == 20)) else (if x15 = 21 then (jacquardref18_Fields.j4 k x15 (x15 == 21)) else (jacquardref18_Fields.j4 k x15 (x15 == 22))))
def jacquardref18_Fields.j4 : Nat → Int → Bool → Option (ByteArray)
 | 0, _, _ => none
 | k + 1, x15, x28 => if x28 = true then (some (⟨#[68, 65, 115]⟩ : ByteArray)) else (if x15 = 23 then (some (⟨#[68, 65, 66, 67]⟩ : ByteArray)) else (if x15 = 24 then (some (⟨#[68, 65, 117]⟩ : ByteArray)) else (if x15 = 25 then (some (⟨#[68, 65, 66]⟩ : ByteArray)) else (if x15 = 26 then (some (⟨#[65, 66, 117]⟩ : ByteArray)) else (if x15 = 27 then (some (⟨#[65, 66, 67]⟩ : ByteArray)) else (if x15 = 28 then (some (⟨#[110, 119]⟩ : ByteArray)) else (if x15 = 30 then (some (⟨#[68, 112]⟩ : ByteArray)) else (if x15 = 31 then (some (⟨#[65, 112]⟩ : ByteArray)) else (if x15 = 40 then (some (⟨#[98]⟩ : ByteArray)) else (if x15 = 41 then (jacquardref18_Fields.j5 k x15 (x15 == 41)) else (jacquardref18_Fields.j5 k x15 (x15 == 42))))))))))))
def jacquardref18_Fields.j5 : Nat → Int → Bool → Option (ByteArray)
 | 0, _, _ => none
 | k + 1, x15, x50 => if x50 = true then (some (⟨#[65, 98]⟩ : ByteArray)) else (if x15 = 49 then (some (⟨#[65, 116]⟩ : ByteArray)) else (if x15 = 50 then (some (⟨#[101]⟩ : ByteArray)) else (if x15 = 51 then (some (⟨#[119]⟩ : ByteArray)) else (some (⟨#[]⟩ : ByteArray)))))
end
def jacquardref18_Fields.f (k : Nat) (a0 : Int) : Option (ByteArray) := if a0 ≥ 5 then (jacquardref18_Fields.j0 k a0 (decide (a0 ≤ 17))) else (jacquardref18_Fields.j0 k a0 false)
theorem jacquardref18_Fields.mono_l : ∀ k, (∀ y0 y1, LeO (jacquardref18_Fields.j0 k y0 y1) (jacquardref18_Fields.j0 (k + 1) y0 y1)) ∧ (∀ y0 y1, LeO (jacquardref18_Fields.j1 k y0 y1) (jacquardref18_Fields.j1 (k + 1) y0 y1)) ∧ (∀ y0 y1, LeO (jacquardref18_Fields.j2 k y0 y1) (jacquardref18_Fields.j2 (k + 1) y0 y1)) ∧ (∀ y0 y1, LeO (jacquardref18_Fields.j3 k y0 y1) (jacquardref18_Fields.j3 (k + 1) y0 y1)) ∧ (∀ y0 y1, LeO (jacquardref18_Fields.j4 k y0 y1) (jacquardref18_Fields.j4 (k + 1) y0 y1)) ∧ (∀ y0 y1, LeO (jacquardref18_Fields.j5 k y0 y1) (jacquardref18_Fields.j5 (k + 1) y0 y1))
 | 0 => ⟨fun _ _ r h => by simp [jacquardref18_Fields.j0] at h, fun _ _ r h => by simp [jacquardref18_Fields.j1] at h, fun _ _ r h => by simp [jacquardref18_Fields.j2] at h, fun _ _ r h => by simp [jacquardref18_Fields.j3] at h, fun _ _ r h => by simp [jacquardref18_Fields.j4] at h, fun _ _ r h => by simp [jacquardref18_Fields.j5] at h⟩
 | k + 1 => by
  obtain ⟨ih0, ih1, ih2, ih3, ih4, ih5⟩ := jacquardref18_Fields.mono_l k
  refine ⟨?_, ?_, ?_, ?_, ?_, ?_⟩
  ·intro y0 y1
   unfold jacquardref18_Fields.j0
   repeat' first
   | (with_reducible exact ih0 _ _)
   | (with_reducible exact ih1 _ _)
   | (with_reducible exact ih2 _ _)
   | (with_reducible exact ih3 _ _)
   | (with_reducible exact ih4 _ _)
   | (with_reducible exact ih5 _ _)
   | (with_reducible exact LeO.refl _)
   | (with_reducible exact LeO.none _)
   | (with_reducible refine LeO.ite ?_ ?_)
   | (with_reducible refine LeO.bind ?_ (fun _ => ?_))
   | exact ih0 _ _
   | exact ih1 _ _
   | exact ih2 _ _
   | exact ih3 _ _
   | exact ih4 _ _
   | exact ih5 _ _
   | exact LeO.none _
   | refine LeO.ite ?_ ?_
   | refine LeO.bind ?_ (fun _ => ?_)
  ·intro y0 y1
   unfold jacquardref18_Fields.j1
   repeat' first
   | (with_reducible exact ih0 _ _)
   | (with_reducible exact ih1 _ _)
   | (with_reducible exact ih2 _ _)
   | (with_reducible exact ih3 _ _)
   | (with_reducible exact ih4 _ _)
   | (with_reducible exact ih5 _ _)
   | (with_reducible exact LeO.refl _)
   | (with_reducible exact LeO.none _)
   | (with_reducible refine LeO.ite ?_ ?_)
   | (with_reducible refine LeO.bind ?_ (fun _ => ?_))
   | exact ih0 _ _
   | exact ih1 _ _
   | exact ih2 _ _
   | exact ih3 _ _
   | exact ih4 _ _
   | exact ih5 _ _
   | exact LeO.none _
   | refine LeO.ite ?_ ?_
   | refine LeO.bind ?_ (fun _ => ?_)
  ·intro y0 y1
   unfold jacquardref18_Fields.j2
   repeat' first
   | (with_reducible exact ih0 _ _)
   | (with_reducible exact ih1 _ _)
   | (with_reducible exact ih2 _ _)
   | (with_reducible exact ih3 _ _)
   | (with_reducible exact ih4 _ _)
   | (with_reducible exact ih5 _ _)
   | (with_reducible exact LeO.refl _)
   | (with_reducible exact LeO.none _)
   | (with_reducible refine LeO.ite ?_ ?_)
   | (with_reducible refine LeO.bind ?_ (fun _ => ?_))
   | exact ih0 _ _
   | exact ih1 _ _
   | exact ih2 _ _
   | exact ih3 _ _
   | exact ih4 _ _
   | exact ih5 _ _
   | exact LeO.none _
   | refine LeO.ite ?_ ?_
   | refine LeO.bind ?_ (fun _ => ?_)
  ·intro y0 y1
   unfold jacquardref18_Fields.j3
   repeat' first
   | (with_reducible exact ih0 _ _)
   | (with_reducible exact ih1 _ _)
   | (with_reducible exact ih2 _ _)
   | (with_reducible exact ih3 _ _)
   | (with_reducible exact ih4 _ _)
   | (with_reducible exact ih5 _ _)
   | (with_reducible exact LeO.refl _)
   | (with_reducible exact LeO.none _)
   | (with_reducible refine LeO.ite ?_ ?_)
   | (with_reducible refine LeO.bind ?_ (fun _ => ?_))
   | exact ih0 _ _
   | exact ih1 _ _
   | exact ih2 _ _
   | exact ih3 _ _
   | exact ih4 _ _
   | exact ih5 _ _
   | exact LeO.none _
   | refine LeO.ite ?_ ?_
   | refine LeO.bind ?_ (fun _ => ?_)
  ·intro y0 y1
   unfold jacquardref18_Fields.j4
   repeat' first
   | (with_reducible exact ih0 _ _)
   | (with_reducible exact ih1 _ _)
   | (with_reducible exact ih2 _ _)
   | (with_reducible exact ih3 _ _)
   | (with_reducible exact ih4 _ _)
   | (with_reducible exact ih5 _ _)
   | (with_reducible exact LeO.refl _)
   | (with_reducible exact LeO.none _)
   | (with_reducible refine LeO.ite ?_ ?_)
   | (with_reducible refine LeO.bind ?_ (fun _ => ?_))
   | exact ih0 _ _
   | exact ih1 _ _
   | exact ih2 _ _
   | exact ih3 _ _
   | exact ih4 _ _
   | exact ih5 _ _
   | exact LeO.none _
   | refine LeO.ite ?_ ?_
   | refine LeO.bind ?_ (fun _ => ?_)
  ·intro y0 y1
   unfold jacquardref18_Fields.j5
   repeat' first
   | (with_reducible exact ih0 _ _)
   | (with_reducible exact ih1 _ _)
   | (with_reducible exact ih2 _ _)
   | (with_reducible exact ih3 _ _)
   | (with_reducible exact ih4 _ _)
   | (with_reducible exact ih5 _ _)
   | (with_reducible exact LeO.refl _)
   | (with_reducible exact LeO.none _)
   | (with_reducible refine LeO.ite ?_ ?_)
   | (with_reducible refine LeO.bind ?_ (fun _ => ?_))
   | exact ih0 _ _
   | exact ih1 _ _
   | exact ih2 _ _
   | exact ih3 _ _
   | exact ih4 _ _
   | exact ih5 _ _
   | exact LeO.none _
   | refine LeO.ite ?_ ?_
   | refine LeO.bind ?_ (fun _ => ?_)
theorem jacquardref18_Fields.mono : ∀ a0 k, LeO (jacquardref18_Fields.f k a0) (jacquardref18_Fields.f (k + 1) a0) := by
 intro a0 k
 obtain ⟨ih0, ih1, ih2, ih3, ih4, ih5⟩ := jacquardref18_Fields.mono_l k
 unfold jacquardref18_Fields.f
 repeat' first
   | (with_reducible exact ih0 _ _)
   | (with_reducible exact ih1 _ _)
   | (with_reducible exact ih2 _ _)
   | (with_reducible exact ih3 _ _)
   | (with_reducible exact ih4 _ _)
   | (with_reducible exact ih5 _ _)
   | (with_reducible exact LeO.refl _)
   | (with_reducible exact LeO.none _)
   | (with_reducible refine LeO.ite ?_ ?_)
   | (with_reducible refine LeO.bind ?_ (fun _ => ?_))
   | exact ih0 _ _
   | exact ih1 _ _
   | exact ih2 _ _
   | exact ih3 _ _
   | exact ih4 _ _
   | exact ih5 _ _
   | exact LeO.none _
   | refine LeO.ite ?_ ?_
   | refine LeO.bind ?_ (fun _ => ?_)
set_option maxHeartbeats 8000000 in
set_option maxRecDepth 100000 in
theorem jacquardref18_Fields.calls (k : Nat) (a0 : Int) (r : ByteArray) (w : World) (h : jacquardref18_Fields.f k a0 = some r) :
  Calls Tryd.prog 50 #[.int .i64 a0] w fun e w' => e = .returned (.string r) ∧ Drawn0 w w' := by
 have H : (if a0 ≥ 5 then (jacquardref18_Fields.j0 k a0 (decide (a0 ≤ 17))) else (jacquardref18_Fields.j0 k a0 false)) = some r := h
 clear h
 have HC2 := Aside0.mk H
 clear H
 go_enter Tryd.func50, Tryd.ntmps50
 go_upto_region 1 with (fail)
 go_cut [8] (fun v8 wc => ∃ (kq : Nat) (x8_1 : Bool), v8 = .bool x8_1 ∧ Aside0 (jacquardref18_Fields.j0 kq a0 x8_1 = some r) ∧ Aside0 (kq ≤ k) ∧ Drawn0 w wc)
 case first =>
  have H := HC2.out
  clear HC2
  by_cases c3 : a0 ≥ 5
  ·rw [if_pos c3] at H
   have c3b0 : decide (5 ≤ a0) = true := decide_eq_true c3
   clear c3
   (first | rw [c3b0] | (simp only [i64_w, i32_w]; rw [c3b0]) | skip)
   have H' := Aside0.mk H
   clear H
   go_wp2
   go_meet
   case rel => exact ⟨_, (decide (a0 ≤ 17)), (by first | rfl | (simp; done) | (simp [*]; done)), H', ⟨by first | omega | exact Nat.le_refl _⟩, by repeat (first | exact Drawn0.refl _ | apply Drawn0.step)⟩
  ·rw [if_neg c3] at H
   have c3b0 : decide (5 ≤ a0) = false := decide_eq_false c3
   clear c3
   (first | rw [c3b0] | (simp only [i64_w, i32_w]; rw [c3b0]) | skip)
   have H' := Aside0.mk H
   clear H
   go_wp2
   go_meet
   case rel => exact ⟨_, (false), (by first | rfl | (simp; done) | (simp [*]; done)), H', ⟨by first | omega | exact Nat.le_refl _⟩, by repeat (first | exact Drawn0.refl _ | apply Drawn0.step)⟩
 case rest =>
  clear HC2
  try clear p2
  try clear c3
  try clear c3b0
  obtain ⟨kq, x8_1, rfl, HA, HJ1, ⟨mc1, rfl⟩⟩ := hcut
  cases kq with
  | zero => exact absurd HA.out (by simp [jacquardref18_Fields.j0])
  | succ kj1 =>
   have H := HA.out
   clear HA
   simp only [jacquardref18_Fields.j0] at H
   by_cases c4 : x8_1 = true
   ·subst c4
    have H1 : (some (⟨#[68, 65, 66]⟩ : ByteArray)) = some r := by rw [if_pos rfl] at H; exact H
    clear H
    have H := H1
    clear H1
    obtain rfl := Option.some.inj H
    go_wp2
    go_ret
    exact ⟨by first | rfl | (simp; done) | (simp [*]; done), by repeat (first | exact Drawn0.refl _ | apply Drawn0.step)⟩
   ·replace c4 := Bool.eq_false_iff.mpr c4
    subst c4
    have H1 : (if a0 ≥ 43 then (jacquardref18_Fields.j1 kj1 a0 (decide (a0 ≤ 48))) else (jacquardref18_Fields.j1 kj1 a0 false)) = some r := by rw [if_neg (show ¬ (false = true) by decide)] at H; exact H
    clear H
    have H := H1
    clear H1
    have HC5 := Aside0.mk H
    clear H
    go_upto_region 3 with (fail)
    go_cut [14] (fun v14 wc => ∃ (kq : Nat) (x14_4 : Bool), v14 = .bool x14_4 ∧ Aside0 (jacquardref18_Fields.j1 kq a0 x14_4 = some r) ∧ Aside0 (kq ≤ kj1) ∧ Drawn0 w wc)
    case first =>
     have H := HC5.out
     clear HC5
     by_cases c6 : a0 ≥ 43
     ·rw [if_pos c6] at H
      have c6b0 : decide (43 ≤ a0) = true := decide_eq_true c6
      clear c6
      (first | rw [c6b0] | (simp only [i64_w, i32_w]; rw [c6b0]) | skip)
      have H' := Aside0.mk H
      clear H
      go_wp2
      go_meet
      case rel => exact ⟨_, (decide (a0 ≤ 48)), (by first | rfl | (simp; done) | (simp [*]; done)), H', ⟨by have := HJ1.out; first | omega | exact Nat.le_refl _⟩, by repeat (first | exact Drawn0.refl _ | apply Drawn0.step)⟩
     ·rw [if_neg c6] at H
      have c6b0 : decide (43 ≤ a0) = false := decide_eq_false c6
      clear c6
      (first | rw [c6b0] | (simp only [i64_w, i32_w]; rw [c6b0]) | skip)
      have H' := Aside0.mk H
      clear H
      go_wp2
      go_meet
      case rel => exact ⟨_, (false), (by first | rfl | (simp; done) | (simp [*]; done)), H', ⟨by have := HJ1.out; first | omega | exact Nat.le_refl _⟩, by repeat (first | exact Drawn0.refl _ | apply Drawn0.step)⟩
    case rest =>
     clear HC5
     try clear c1
     try clear p2
     try clear c3
     try clear c3b0
     try clear c4
     try clear c5
     try clear c6
     try clear c6b0
     try clear p2
     obtain ⟨kq, x14_4, rfl, HA, HJ4, ⟨mc4, rfl⟩⟩ := hcut
     cases kq with
     | zero => exact absurd HA.out (by simp [jacquardref18_Fields.j1])
     | succ kj4 =>
      have H := HA.out
      clear HA
      simp only [jacquardref18_Fields.j1] at H
      by_cases c7 : x14_4 = true
      ·subst c7
       have H1 : (some (⟨#[65, 66, 98]⟩ : ByteArray)) = some r := by rw [if_pos rfl] at H; exact H
       clear H
       have H := H1
       clear H1
       obtain rfl := Option.some.inj H
       go_wp2
       go_ret
       exact ⟨by first | rfl | (simp; done) | (simp [*]; done), by repeat (first | exact Drawn0.refl _ | apply Drawn0.step)⟩
      ·replace c7 := Bool.eq_false_iff.mpr c7
       subst c7
       have H1 : (if a0 = 1 then (some (⟨#[68, 65]⟩ : ByteArray)) else (if a0 = 2 then (jacquardref18_Fields.j2 kj4 a0 (a0 == 2)) else (jacquardref18_Fields.j2 kj4 a0 (a0 == 29)))) = some r := by rw [if_neg (show ¬ (false = true) by decide)] at H; exact H
       clear H
       have H := H1
       clear H1
       by_cases c8 : a0 = 1
       ·rw [if_pos c8] at H
        have c8b0 : (a0 == 1) = true := beq_iff_eq.mpr c8
        have c8b1 : (a0 != 1) = false := bne_eq_false_iff_eq.mpr c8
        clear c8
        obtain rfl := Option.some.inj H
        go_wp2
        go_ret
        exact ⟨by first | rfl | (simp; done) | (simp [*]; done), by repeat (first | exact Drawn0.refl _ | apply Drawn0.step)⟩
       ·rw [if_neg c8] at H
        have c8b0 : (a0 == 1) = false := beq_eq_false_iff_ne.mpr c8
        have c8b1 : (a0 != 1) = true := bne_iff_ne.mpr c8
        have HC9 := Aside0.mk H
        clear H
        go_upto_if 18 with (fail)
        go_cut [18] (fun v18 wc => ∃ (kq : Nat) (x18_8 : Bool), v18 = .bool x18_8 ∧ Aside0 (jacquardref18_Fields.j2 kq a0 x18_8 = some r) ∧ Aside0 (kq ≤ kj4) ∧ Drawn0 w wc)
        case first =>
         have H := HC9.out
         clear HC9
         by_cases c10 : a0 = 2
         ·rw [if_pos c10] at H
          have c10b0 : (a0 == 2) = true := beq_iff_eq.mpr c10
          have c10b1 : (a0 != 2) = false := bne_eq_false_iff_eq.mpr c10
          clear c10
          (first | rw [c10b0] | (simp only [i64_w, i32_w]; rw [c10b0]) | skip)
          have H' := Aside0.mk H
          clear H
          go_wp2
          go_meet
          case rel => exact ⟨_, ((a0 == 2)), (by first | rfl | (simp; done) | (simp [*]; done)), H', ⟨by have := HJ1.out; have := HJ4.out; first | omega | exact Nat.le_refl _⟩, by repeat (first | exact Drawn0.refl _ | apply Drawn0.step)⟩
         ·rw [if_neg c10] at H
          have c10b0 : (a0 == 2) = false := beq_eq_false_iff_ne.mpr c10
          have c10b1 : (a0 != 2) = true := bne_iff_ne.mpr c10
          (first | rw [c10b0] | (simp only [i64_w, i32_w]; rw [c10b0]) | skip)
          have H' := Aside0.mk H
          clear H
          go_wp2
          go_meet
          case rel => exact ⟨_, ((a0 == 29)), (by first | rfl | (simp; done) | (simp [*]; done)), H', ⟨by have := HJ1.out; have := HJ4.out; first | omega | exact Nat.le_refl _⟩, by repeat (first | exact Drawn0.refl _ | apply Drawn0.step)⟩
        case rest =>
         clear HC9
         try clear c1
         try clear p2
         try clear c3
         try clear c3b0
         try clear c4
         try clear c5
         try clear c6
         try clear c6b0
         try clear c7
         try clear c8
         try clear c8b0
         try clear c8b1
         try clear c10
         try clear c10b0
         try clear c10b1
         try clear p2
         obtain ⟨kq, x18_8, rfl, HA, HJ8, ⟨mc8, rfl⟩⟩ := hcut
         cases kq with
         | zero => exact absurd HA.out (by simp [jacquardref18_Fields.j2])
         | succ kj8 =>
          have H := HA.out
          clear HA
          simp only [jacquardref18_Fields.j2] at H
          by_cases c11 : x18_8 = true
          ·subst c11
           have H1 : (some (⟨#[65, 66]⟩ : ByteArray)) = some r := by rw [if_pos rfl] at H; exact H
           clear H
           have H := H1
           clear H1
           obtain rfl := Option.some.inj H
           go_wp2
           go_ret
           exact ⟨by first | rfl | (simp; done) | (simp [*]; done), by repeat (first | exact Drawn0.refl _ | apply Drawn0.step)⟩
          ·replace c11 := Bool.eq_false_iff.mpr c11
           subst c11
           have H1 : (if a0 = 3 then (some (⟨#[68, 104]⟩ : ByteArray)) else (if a0 = 4 then (some (⟨#[68, 119]⟩ : ByteArray)) else (if a0 = 18 then (jacquardref18_Fields.j3 kj8 a0 (a0 == 18)) else (jacquardref18_Fields.j3 kj8 a0 (a0 == 19))))) = some r := by rw [if_neg (show ¬ (false = true) by decide)] at H; exact H
           clear H
           have H := H1
           clear H1
           by_cases c12 : a0 = 3
           ·rw [if_pos c12] at H
            have c12b0 : (a0 == 3) = true := beq_iff_eq.mpr c12
            have c12b1 : (a0 != 3) = false := bne_eq_false_iff_eq.mpr c12
            clear c12
            obtain rfl := Option.some.inj H
            go_wp2
            go_ret
            exact ⟨by first | rfl | (simp; done) | (simp [*]; done), by repeat (first | exact Drawn0.refl _ | apply Drawn0.step)⟩
           ·rw [if_neg c12] at H
            have c12b0 : (a0 == 3) = false := beq_eq_false_iff_ne.mpr c12
            have c12b1 : (a0 != 3) = true := bne_iff_ne.mpr c12
            by_cases c13 : a0 = 4
            ·rw [if_pos c13] at H
             have c13b0 : (a0 == 4) = true := beq_iff_eq.mpr c13
             have c13b1 : (a0 != 4) = false := bne_eq_false_iff_eq.mpr c13
             clear c13
             obtain rfl := Option.some.inj H
             go_wp2
             go_ret
             exact ⟨by first | rfl | (simp; done) | (simp [*]; done), by repeat (first | exact Drawn0.refl _ | apply Drawn0.step)⟩
            ·rw [if_neg c13] at H
             have c13b0 : (a0 == 4) = false := beq_eq_false_iff_ne.mpr c13
             have c13b1 : (a0 != 4) = true := bne_iff_ne.mpr c13
             have HC14 := Aside0.mk H
             clear H
             go_upto_if 25 with (fail)
             go_cut [25] (fun v25 wc => ∃ (kq : Nat) (x25_13 : Bool), v25 = .bool x25_13 ∧ Aside0 (jacquardref18_Fields.j3 kq a0 x25_13 = some r) ∧ Aside0 (kq ≤ kj8) ∧ Drawn0 w wc)
             case first =>
              have H := HC14.out
              clear HC14
              by_cases c15 : a0 = 18
              ·rw [if_pos c15] at H
               have c15b0 : (a0 == 18) = true := beq_iff_eq.mpr c15
               have c15b1 : (a0 != 18) = false := bne_eq_false_iff_eq.mpr c15
               clear c15
               (first | rw [c15b0] | (simp only [i64_w, i32_w]; rw [c15b0]) | skip)
               have H' := Aside0.mk H
               clear H
               go_wp2
               go_meet
               case rel => exact ⟨_, ((a0 == 18)), (by first | rfl | (simp; done) | (simp [*]; done)), H', ⟨by have := HJ1.out; have := HJ4.out; have := HJ8.out; first | omega | exact Nat.le_refl _⟩, by repeat (first | exact Drawn0.refl _ | apply Drawn0.step)⟩
              ·rw [if_neg c15] at H
               have c15b0 : (a0 == 18) = false := beq_eq_false_iff_ne.mpr c15
               have c15b1 : (a0 != 18) = true := bne_iff_ne.mpr c15
               (first | rw [c15b0] | (simp only [i64_w, i32_w]; rw [c15b0]) | skip)
               have H' := Aside0.mk H
               clear H
               go_wp2
               go_meet
               case rel => exact ⟨_, ((a0 == 19)), (by first | rfl | (simp; done) | (simp [*]; done)), H', ⟨by have := HJ1.out; have := HJ4.out; have := HJ8.out; first | omega | exact Nat.le_refl _⟩, by repeat (first | exact Drawn0.refl _ | apply Drawn0.step)⟩
             case rest =>
              clear HC14
              try clear c1
              try clear p2
              try clear c3
              try clear c3b0
              try clear c4
              try clear c5
              try clear c6
              try clear c6b0
              try clear c7
              try clear c8
              try clear c8b0
              try clear c8b1
              try clear c10
              try clear c10b0
              try clear c10b1
              try clear c11
              try clear c12
              try clear c12b0
              try clear c12b1
              try clear c13
              try clear c13b0
              try clear c13b1
              try clear c15
              try clear c15b0
              try clear c15b1
              try clear p2
              obtain ⟨kq, x25_13, rfl, HA, HJ13, ⟨mc13, rfl⟩⟩ := hcut
              cases kq with
              | zero => exact absurd HA.out (by simp [jacquardref18_Fields.j3])
              | succ kj13 =>
               have H := HA.out
               clear HA
               simp only [jacquardref18_Fields.j3] at H
               by_cases c16 : x25_13 = true
               ·subst c16
                have H1 : (some (⟨#[68, 65, 105]⟩ : ByteArray)) = some r := by rw [if_pos rfl] at H; exact H
                clear H
                have H := H1
                clear H1
                obtain rfl := Option.some.inj H
                go_wp2
                go_ret
                exact ⟨by first | rfl | (simp; done) | (simp [*]; done), by repeat (first | exact Drawn0.refl _ | apply Drawn0.step)⟩
               ·replace c16 := Bool.eq_false_iff.mpr c16
                subst c16
                have H1 : (if a0 = 20 then (jacquardref18_Fields.j4 kj13 a0 (a0 == 20)) else (if a0 = 21 then (jacquardref18_Fields.j4 kj13 a0 (a0 == 21)) else (jacquardref18_Fields.j4 kj13 a0 (a0 == 22)))) = some r := by rw [if_neg (show ¬ (false = true) by decide)] at H; exact H
                clear H
                have H := H1
                clear H1
                have HC17 := Aside0.mk H
                clear H
                go_upto_if 28 with (fail)
                go_cut [28] (fun v28 wc => ∃ (kq : Nat) (x28_16 : Bool), v28 = .bool x28_16 ∧ Aside0 (jacquardref18_Fields.j4 kq a0 x28_16 = some r) ∧ Aside0 (kq ≤ kj13) ∧ Drawn0 w wc)
                case first =>
                 have H := HC17.out
                 clear HC17
                 by_cases c18 : a0 = 20
                 ·rw [if_pos c18] at H
                  have c18b0 : (a0 == 20) = true := beq_iff_eq.mpr c18
                  have c18b1 : (a0 != 20) = false := bne_eq_false_iff_eq.mpr c18
                  clear c18
                  (first | rw [c18b0] | (simp only [i64_w, i32_w]; rw [c18b0]) | skip)
                  have H' := Aside0.mk H
                  clear H
                  go_wp2
                  go_meet
                  case rel => exact ⟨_, ((a0 == 20)), (by first | rfl | (simp; done) | (simp [*]; done)), H', ⟨by have := HJ1.out; have := HJ4.out; have := HJ8.out; have := HJ13.out; first | omega | exact Nat.le_refl _⟩, by repeat (first | exact Drawn0.refl _ | apply Drawn0.step)⟩
                 ·rw [if_neg c18] at H
                  have c18b0 : (a0 == 20) = false := beq_eq_false_iff_ne.mpr c18
                  have c18b1 : (a0 != 20) = true := bne_iff_ne.mpr c18
                  (first | rw [c18b0] | (simp only [i64_w, i32_w]; rw [c18b0]) | skip)
                  by_cases c19 : a0 = 21
                  ·rw [if_pos c19] at H
                   have c19b0 : (a0 == 21) = true := beq_iff_eq.mpr c19
                   have c19b1 : (a0 != 21) = false := bne_eq_false_iff_eq.mpr c19
                   clear c19
                   have H' := Aside0.mk H
                   clear H
                   go_wp2
                   go_meet
                   case rel => exact ⟨_, ((a0 == 21)), (by first | rfl | (simp; done) | (simp [*]; done)), H', ⟨by have := HJ1.out; have := HJ4.out; have := HJ8.out; have := HJ13.out; first | omega | exact Nat.le_refl _⟩, by repeat (first | exact Drawn0.refl _ | apply Drawn0.step)⟩
                  ·rw [if_neg c19] at H
                   have c19b0 : (a0 == 21) = false := beq_eq_false_iff_ne.mpr c19
                   have c19b1 : (a0 != 21) = true := bne_iff_ne.mpr c19
                   have H' := Aside0.mk H
                   clear H
                   go_wp2
                   go_meet
                   case rel => exact ⟨_, ((a0 == 22)), (by first | rfl | (simp; done) | (simp [*]; done)), H', ⟨by have := HJ1.out; have := HJ4.out; have := HJ8.out; have := HJ13.out; first | omega | exact Nat.le_refl _⟩, by repeat (first | exact Drawn0.refl _ | apply Drawn0.step)⟩
                case rest =>
                 clear HC17
                 try clear c1
                 try clear p2
                 try clear c3
                 try clear c3b0
                 try clear c4
                 try clear c5
                 try clear c6
                 try clear c6b0
                 try clear c7
                 try clear c8
                 try clear c8b0
                 try clear c8b1
                 try clear c10
                 try clear c10b0
                 try clear c10b1
                 try clear c11
                 try clear c12
                 try clear c12b0
                 try clear c12b1
                 try clear c13
                 try clear c13b0
                 try clear c13b1
                 try clear c15
                 try clear c15b0
                 try clear c15b1
                 try clear c16
                 try clear c18
                 try clear c18b0
                 try clear c18b1
                 try clear c19
                 try clear c19b0
                 try clear c19b1
                 try clear p2
                 obtain ⟨kq, x28_16, rfl, HA, HJ16, ⟨mc16, rfl⟩⟩ := hcut
                 cases kq with
                 | zero => exact absurd HA.out (by simp [jacquardref18_Fields.j4])
                 | succ kj16 =>
                  have H := HA.out
                  clear HA
                  simp only [jacquardref18_Fields.j4] at H
                  by_cases c20 : x28_16 = true
                  ·subst c20
                   have H1 : (some (⟨#[68, 65, 115]⟩ : ByteArray)) = some r := by rw [if_pos rfl] at H; exact H
                   clear H
                   have H := H1
                   clear H1
                   obtain rfl := Option.some.inj H
                   go_wp2
                   go_ret
                   exact ⟨by first | rfl | (simp; done) | (simp [*]; done), by repeat (first | exact Drawn0.refl _ | apply Drawn0.step)⟩
                  ·replace c20 := Bool.eq_false_iff.mpr c20
                   subst c20
                   have H1 : (if a0 = 23 then (some (⟨#[68, 65, 66, 67]⟩ : ByteArray)) else (if a0 = 24 then (some (⟨#[68, 65, 117]⟩ : ByteArray)) else (if a0 = 25 then (some (⟨#[68, 65, 66]⟩ : ByteArray)) else (if a0 = 26 then (some (⟨#[65, 66, 117]⟩ : ByteArray)) else (if a0 = 27 then (some (⟨#[65, 66, 67]⟩ : ByteArray)) else (if a0 = 28 then (some (⟨#[110, 119]⟩ : ByteArray)) else (if a0 = 30 then (some (⟨#[68, 112]⟩ : ByteArray)) else (if a0 = 31 then (some (⟨#[65, 112]⟩ : ByteArray)) else (if a0 = 40 then (some (⟨#[98]⟩ : ByteArray)) else (if a0 = 41 then (jacquardref18_Fields.j5 kj16 a0 (a0 == 41)) else (jacquardref18_Fields.j5 kj16 a0 (a0 == 42)))))))))))) = some r := by rw [if_neg (show ¬ (false = true) by decide)] at H; exact H
                   clear H
                   have H := H1
                   clear H1
                   by_cases c21 : a0 = 23
                   ·rw [if_pos c21] at H
                    have c21b0 : (a0 == 23) = true := beq_iff_eq.mpr c21
                    have c21b1 : (a0 != 23) = false := bne_eq_false_iff_eq.mpr c21
                    clear c21
                    obtain rfl := Option.some.inj H
                    go_wp2
                    go_ret
                    exact ⟨by first | rfl | (simp; done) | (simp [*]; done), by repeat (first | exact Drawn0.refl _ | apply Drawn0.step)⟩
                   ·rw [if_neg c21] at H
                    have c21b0 : (a0 == 23) = false := beq_eq_false_iff_ne.mpr c21
                    have c21b1 : (a0 != 23) = true := bne_iff_ne.mpr c21
                    by_cases c22 : a0 = 24
                    ·rw [if_pos c22] at H
                     have c22b0 : (a0 == 24) = true := beq_iff_eq.mpr c22
                     have c22b1 : (a0 != 24) = false := bne_eq_false_iff_eq.mpr c22
                     clear c22
                     obtain rfl := Option.some.inj H
                     go_wp2
                     go_ret
                     exact ⟨by first | rfl | (simp; done) | (simp [*]; done), by repeat (first | exact Drawn0.refl _ | apply Drawn0.step)⟩
                    ·rw [if_neg c22] at H
                     have c22b0 : (a0 == 24) = false := beq_eq_false_iff_ne.mpr c22
                     have c22b1 : (a0 != 24) = true := bne_iff_ne.mpr c22
                     by_cases c23 : a0 = 25
                     ·rw [if_pos c23] at H
                      have c23b0 : (a0 == 25) = true := beq_iff_eq.mpr c23
                      have c23b1 : (a0 != 25) = false := bne_eq_false_iff_eq.mpr c23
                      clear c23
                      obtain rfl := Option.some.inj H
                      go_wp2
                      go_ret
                      exact ⟨by first | rfl | (simp; done) | (simp [*]; done), by repeat (first | exact Drawn0.refl _ | apply Drawn0.step)⟩
                     ·rw [if_neg c23] at H
                      have c23b0 : (a0 == 25) = false := beq_eq_false_iff_ne.mpr c23
                      have c23b1 : (a0 != 25) = true := bne_iff_ne.mpr c23
                      by_cases c24 : a0 = 26
                      ·rw [if_pos c24] at H
                       have c24b0 : (a0 == 26) = true := beq_iff_eq.mpr c24
                       have c24b1 : (a0 != 26) = false := bne_eq_false_iff_eq.mpr c24
                       clear c24
                       obtain rfl := Option.some.inj H
                       go_wp2
                       go_ret
                       exact ⟨by first | rfl | (simp; done) | (simp [*]; done), by repeat (first | exact Drawn0.refl _ | apply Drawn0.step)⟩
                      ·rw [if_neg c24] at H
                       have c24b0 : (a0 == 26) = false := beq_eq_false_iff_ne.mpr c24
                       have c24b1 : (a0 != 26) = true := bne_iff_ne.mpr c24
                       by_cases c25 : a0 = 27
                       ·rw [if_pos c25] at H
                        have c25b0 : (a0 == 27) = true := beq_iff_eq.mpr c25
                        have c25b1 : (a0 != 27) = false := bne_eq_false_iff_eq.mpr c25
                        clear c25
                        obtain rfl := Option.some.inj H
                        go_wp2
                        go_ret
                        exact ⟨by first | rfl | (simp; done) | (simp [*]; done), by repeat (first | exact Drawn0.refl _ | apply Drawn0.step)⟩
                       ·rw [if_neg c25] at H
                        have c25b0 : (a0 == 27) = false := beq_eq_false_iff_ne.mpr c25
                        have c25b1 : (a0 != 27) = true := bne_iff_ne.mpr c25
                        by_cases c26 : a0 = 28
                        ·rw [if_pos c26] at H
                         have c26b0 : (a0 == 28) = true := beq_iff_eq.mpr c26
                         have c26b1 : (a0 != 28) = false := bne_eq_false_iff_eq.mpr c26
                         clear c26
                         obtain rfl := Option.some.inj H
                         go_wp2
                         go_ret
                         exact ⟨by first | rfl | (simp; done) | (simp [*]; done), by repeat (first | exact Drawn0.refl _ | apply Drawn0.step)⟩
                        ·rw [if_neg c26] at H
                         have c26b0 : (a0 == 28) = false := beq_eq_false_iff_ne.mpr c26
                         have c26b1 : (a0 != 28) = true := bne_iff_ne.mpr c26
                         by_cases c27 : a0 = 30
                         ·rw [if_pos c27] at H
                          have c27b0 : (a0 == 30) = true := beq_iff_eq.mpr c27
                          have c27b1 : (a0 != 30) = false := bne_eq_false_iff_eq.mpr c27
                          clear c27
                          obtain rfl := Option.some.inj H
                          go_wp2
                          go_ret
                          exact ⟨by first | rfl | (simp; done) | (simp [*]; done), by repeat (first | exact Drawn0.refl _ | apply Drawn0.step)⟩
                         ·rw [if_neg c27] at H
                          have c27b0 : (a0 == 30) = false := beq_eq_false_iff_ne.mpr c27
                          have c27b1 : (a0 != 30) = true := bne_iff_ne.mpr c27
                          by_cases c28 : a0 = 31
                          ·rw [if_pos c28] at H
                           have c28b0 : (a0 == 31) = true := beq_iff_eq.mpr c28
                           have c28b1 : (a0 != 31) = false := bne_eq_false_iff_eq.mpr c28
                           clear c28
                           obtain rfl := Option.some.inj H
                           go_wp2
                           go_ret
                           exact ⟨by first | rfl | (simp; done) | (simp [*]; done), by repeat (first | exact Drawn0.refl _ | apply Drawn0.step)⟩
                          ·rw [if_neg c28] at H
                           have c28b0 : (a0 == 31) = false := beq_eq_false_iff_ne.mpr c28
                           have c28b1 : (a0 != 31) = true := bne_iff_ne.mpr c28
                           by_cases c29 : a0 = 40
                           ·rw [if_pos c29] at H
                            have c29b0 : (a0 == 40) = true := beq_iff_eq.mpr c29
                            have c29b1 : (a0 != 40) = false := bne_eq_false_iff_eq.mpr c29
                            clear c29
                            obtain rfl := Option.some.inj H
                            go_wp2
                            go_ret
                            exact ⟨by first | rfl | (simp; done) | (simp [*]; done), by repeat (first | exact Drawn0.refl _ | apply Drawn0.step)⟩
                           ·rw [if_neg c29] at H
                            have c29b0 : (a0 == 40) = false := beq_eq_false_iff_ne.mpr c29
                            have c29b1 : (a0 != 40) = true := bne_iff_ne.mpr c29
                            have HC30 := Aside0.mk H
                            clear H
                            go_upto_if 50 with (fail)
                            go_cut [50] (fun v50 wc => ∃ (kq : Nat) (x50_29 : Bool), v50 = .bool x50_29 ∧ Aside0 (jacquardref18_Fields.j5 kq a0 x50_29 = some r) ∧ Aside0 (kq ≤ kj16) ∧ Drawn0 w wc)
                            case first =>
                             have H := HC30.out
                             clear HC30
                             by_cases c31 : a0 = 41
                             ·rw [if_pos c31] at H
                              have c31b0 : (a0 == 41) = true := beq_iff_eq.mpr c31
                              have c31b1 : (a0 != 41) = false := bne_eq_false_iff_eq.mpr c31
                              clear c31
                              (first | rw [c31b0] | (simp only [i64_w, i32_w]; rw [c31b0]) | skip)
                              have H' := Aside0.mk H
                              clear H
                              go_wp2
                              go_meet
                              case rel => exact ⟨_, ((a0 == 41)), (by first | rfl | (simp; done) | (simp [*]; done)), H', ⟨by have := HJ1.out; have := HJ4.out; have := HJ8.out; have := HJ13.out; have := HJ16.out; first | omega | exact Nat.le_refl _⟩, by repeat (first | exact Drawn0.refl _ | apply Drawn0.step)⟩
                             ·rw [if_neg c31] at H
                              have c31b0 : (a0 == 41) = false := beq_eq_false_iff_ne.mpr c31
                              have c31b1 : (a0 != 41) = true := bne_iff_ne.mpr c31
                              (first | rw [c31b0] | (simp only [i64_w, i32_w]; rw [c31b0]) | skip)
                              have H' := Aside0.mk H
                              clear H
                              go_wp2
                              go_meet
                              case rel => exact ⟨_, ((a0 == 42)), (by first | rfl | (simp; done) | (simp [*]; done)), H', ⟨by have := HJ1.out; have := HJ4.out; have := HJ8.out; have := HJ13.out; have := HJ16.out; first | omega | exact Nat.le_refl _⟩, by repeat (first | exact Drawn0.refl _ | apply Drawn0.step)⟩
                            case rest =>
                             clear HC30
                             try clear c1
                             try clear c2
                             try clear p2
                             try clear c3
                             try clear c3b0
                             try clear c4
                             try clear c5
                             try clear c6
                             try clear c6b0
                             try clear c7
                             try clear c8
                             try clear c8b0
                             try clear c8b1
                             try clear c10
                             try clear c10b0
                             try clear c10b1
                             try clear c11
                             try clear c12
                             try clear c12b0
                             try clear c12b1
                             try clear c13
                             try clear c13b0
                             try clear c13b1
                             try clear c15
                             try clear c15b0
                             try clear c15b1
                             try clear c16
                             try clear c18
                             try clear c18b0
                             try clear c18b1
                             try clear c19
                             try clear c19b0
                             try clear c19b1
                             try clear c20
                             try clear c21
                             try clear c21b0
                             try clear c21b1
                             try clear c22
                             try clear c22b0
                             try clear c22b1
                             try clear c23
                             try clear c23b0
                             try clear c23b1
                             try clear c24
                             try clear c24b0
                             try clear c24b1
                             try clear c25
                             try clear c25b0
                             try clear c25b1
                             try clear c26
                             try clear c26b0
                             try clear c26b1
                             try clear c27
                             try clear c27b0
                             try clear c27b1
                             try clear c28
                             try clear c28b0
                             try clear c28b1
                             try clear c29
                             try clear c29b0
                             try clear c29b1
                             try clear c31
                             try clear c31b0
                             try clear c31b1
                             try clear p2
                             obtain ⟨kq, x50_29, rfl, HA, HJ29, ⟨mc29, rfl⟩⟩ := hcut
                             cases kq with
                             | zero => exact absurd HA.out (by simp [jacquardref18_Fields.j5])
                             | succ kj29 =>
                              have H := HA.out
                              clear HA
                              simp only [jacquardref18_Fields.j5] at H
                              by_cases c32 : x50_29 = true
                              ·subst c32
                               have H1 : (some (⟨#[65, 98]⟩ : ByteArray)) = some r := by rw [if_pos rfl] at H; exact H
                               clear H
                               have H := H1
                               clear H1
                               obtain rfl := Option.some.inj H
                               go_wp2
                               go_ret
                               exact ⟨by first | rfl | (simp; done) | (simp [*]; done), by repeat (first | exact Drawn0.refl _ | apply Drawn0.step)⟩
                              ·replace c32 := Bool.eq_false_iff.mpr c32
                               subst c32
                               have H1 : (if a0 = 49 then (some (⟨#[65, 116]⟩ : ByteArray)) else (if a0 = 50 then (some (⟨#[101]⟩ : ByteArray)) else (if a0 = 51 then (some (⟨#[119]⟩ : ByteArray)) else (some (⟨#[]⟩ : ByteArray))))) = some r := by rw [if_neg (show ¬ (false = true) by decide)] at H; exact H
                               clear H
                               have H := H1
                               clear H1
                               by_cases c33 : a0 = 49
                               ·rw [if_pos c33] at H
                                have c33b0 : (a0 == 49) = true := beq_iff_eq.mpr c33
                                have c33b1 : (a0 != 49) = false := bne_eq_false_iff_eq.mpr c33
                                clear c33
                                obtain rfl := Option.some.inj H
                                go_wp2
                                go_ret
                                exact ⟨by first | rfl | (simp; done) | (simp [*]; done), by repeat (first | exact Drawn0.refl _ | apply Drawn0.step)⟩
                               ·rw [if_neg c33] at H
                                have c33b0 : (a0 == 49) = false := beq_eq_false_iff_ne.mpr c33
                                have c33b1 : (a0 != 49) = true := bne_iff_ne.mpr c33
                                by_cases c34 : a0 = 50
                                ·rw [if_pos c34] at H
                                 have c34b0 : (a0 == 50) = true := beq_iff_eq.mpr c34
                                 have c34b1 : (a0 != 50) = false := bne_eq_false_iff_eq.mpr c34
                                 clear c34
                                 obtain rfl := Option.some.inj H
                                 go_wp2
                                 go_ret
                                 exact ⟨by first | rfl | (simp; done) | (simp [*]; done), by repeat (first | exact Drawn0.refl _ | apply Drawn0.step)⟩
                                ·rw [if_neg c34] at H
                                 have c34b0 : (a0 == 50) = false := beq_eq_false_iff_ne.mpr c34
                                 have c34b1 : (a0 != 50) = true := bne_iff_ne.mpr c34
                                 by_cases c35 : a0 = 51
                                 ·rw [if_pos c35] at H
                                  have c35b0 : (a0 == 51) = true := beq_iff_eq.mpr c35
                                  have c35b1 : (a0 != 51) = false := bne_eq_false_iff_eq.mpr c35
                                  clear c35
                                  obtain rfl := Option.some.inj H
                                  go_wp2
                                  go_ret
                                  exact ⟨by first | rfl | (simp; done) | (simp [*]; done), by repeat (first | exact Drawn0.refl _ | apply Drawn0.step)⟩
                                 ·rw [if_neg c35] at H
                                  have c35b0 : (a0 == 51) = false := beq_eq_false_iff_ne.mpr c35
                                  have c35b1 : (a0 != 51) = true := bne_iff_ne.mpr c35
                                  obtain rfl := Option.some.inj H
                                  go_wp2
                                  go_ret
                                  exact ⟨by first | rfl | (simp; done) | (simp [*]; done), by repeat (first | exact Drawn0.refl _ | apply Drawn0.step)⟩

end Go.Proofs.YtmoplcchiadlpaaDoor.S
