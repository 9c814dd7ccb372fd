/- jacquardref18.Plain: an instruction without what its Op has not. The reference's Shape, Regs, Bytes, Size and Put (chapter 18) by our plain words. The reference's Put (P18.1) by our plain words. The reference's Get (P18.2), said plainly, tells what ours tells. The reference's signed (chapter 18) by our plain words. jacquardlaw18.shown: the small case that must work is so. -/
import Derived.Test.YtmoplcchiadlpaaDoorKMJcGet
import Derived.Deep.DeepCutAuto
import Derived.Deep.CutBlock
import Derived.Test.YtmoplcchiadlpaaDoorKSx4
import Derived.Laws.Bits128
import Derived.Test.YtmoplcchiadlpaaDoorKSx5
import Derived.Test.YtmoplcchiadlpaaDoorKMJcOps
section
set_option linter.unusedVariables false
set_option linter.unusedSimpArgs false
namespace Go.Proofs.YtmoplcchiadlpaaDoor.Jc
open Go Go.RowKit Go.ChangeMaps Go.Proofs.YtmoplcchiadlpaaDoorW.PrintWords

/-! Plain words. -/
def stepP (m g : M) (x : UInt8) : M :=
  if x = 68 then { g with d := m.d } else if x = 65 then { g with a := m.a } else if x = 66 then { g with b := m.b } else if x = 67 then { g with c := m.c }
  else if x = 116 ∨ x = 110 then { g with args := m.args } else if x = 101 then { g with e := m.e } else g
def startP (m : M) : M := ⟨m.op, 0, 0, 0, 0, 0, 0, []⟩
def partP (m : M) (k : Nat) : M := ((fieldsOf m.op).take k).foldl (stepP m) (startP m)
theorem partP_succ (m : M) (k : Nat) (h : k < (fieldsOf m.op).length) : partP m (k + 1) = stepP m (partP m k) ((fieldsOf m.op)[k]'h) := by
  unfold partP
  rw [List.take_succ_eq_append_getElem h, List.foldl_append]
  rfl
theorem partP_op (m : M) : ∀ k, (partP m k).op = m.op := by
  intro k
  unfold partP
  generalize (fieldsOf m.op).take k = l
  have : ∀ (l : List UInt8) (g : M), g.op = m.op → (l.foldl (stepP m) g).op = m.op := by
    intro l
    induction l with
    | nil => exact fun g h => h
    | cons x r ih =>
      intro g h
      refine ih _ ?_
      unfold stepP
      repeat' split
      all_goals exact h
  exact this l _ rfl
/-- The last letter (0: none). -/
def lastF (op : Int) : UInt8 := (fieldsOf op).getLastD 0
/-- The bytes of a letter's number, as the reference has them. -/
def ofBytes (x : UInt8) : Int := if x = 104 then 2 else if x = 119 then 4 else if x = 105 then 1 else if x = 115 then 1 else if x = 117 then 1 else if x = 112 then 2 else if x = 116 then 3 else if x = 98 then 1 else 0
def endP (m : M) : M :=
  let g := partP m (fieldsOf m.op).length
  let g1 := if 0 < ofBytes (lastF m.op) ∧ lastF m.op ≠ 116 then { g with imm := m.imm } else g
  if lastF m.op = 98 ∨ m.op = 29 then { g1 with e := m.e } else g1
theorem patterns : ∀ p ∈ tab, p.2.2 ∈ [[68, 65], [65, 66], [68, 104], [68, 119], [68, 65, 66], [68, 65, 105], [68, 65, 115], [68, 65, 66, 67], [68, 65, 117], [65, 66, 117], [65, 66, 67], [110, 119], [68, 112], [65, 112], [98], [65, 98], [65, 66, 98], [65, 116], [101], [119]] := by decide +kernel
theorem pattern_of (op : Int) : fieldsOf op = [] ∨ fieldsOf op ∈ [[68, 65], [65, 66], [68, 104], [68, 119], [68, 65, 66], [68, 65, 105], [68, 65, 115], [68, 65, 66, 67], [68, 65, 117], [65, 66, 117], [65, 66, 67], [110, 119], [68, 112], [65, 112], [98], [65, 98], [65, 66, 98], [65, 116], [101], [119]] := by
  unfold fieldsOf
  cases hi : info op tab with
  | none => exact .inl rfl
  | some x => exact .inr (patterns _ (info_mem hi))
theorem endP_plain (m : M) : endP m = plainM m := by
  have hp := pattern_of m.op
  unfold endP plainM partP lastF regsF numF
  generalize fieldsOf m.op = f at hp
  have key : ∀ f ∈ ([[], [68, 65], [65, 66], [68, 104], [68, 119], [68, 65, 66], [68, 65, 105], [68, 65, 115], [68, 65, 66, 67], [68, 65, 117], [65, 66, 117], [65, 66, 67], [110, 119], [68, 112], [65, 112], [98], [65, 98], [65, 66, 98], [65, 116], [101], [119]] : List (List UInt8)), True := fun _ _ => trivial
  rcases hp with rfl | hp
  · by_cases h29 : m.op = 29 <;> simp [startP, ofBytes, splitF, splitGo, h29]
  · simp only [List.mem_cons, List.not_mem_nil, or_false] at hp
    rcases hp with rfl | rfl | rfl | rfl | rfl | rfl | rfl | rfl | rfl | rfl | rfl | rfl | rfl | rfl | rfl | rfl | rfl | rfl | rfl | rfl <;>
      (by_cases h29 : m.op = 29 <;> simp [startP, stepP, ofBytes, splitF, splitGo, isReg, h29])

def ofT (x : UInt8) (far : Bool) : Int × Int × Int :=
  if x = 104 then (2, -32768, 32767) else if x = 119 then (4, -2147483648, 2147483647) else if x = 105 then (1, -128, 127) else if x = 115 then (1, 0, 31) else if x = 117 then (1, 0, 255) else if x = 112 then (2, 0, 16383)
  else if x = 116 then (3, -8388608, 8388607) else if x = 98 then (if far = true then (3, -8388608, 8388607) else (1, -128, 127)) else (0, 0, 0)
theorem u8_int (x y : UInt8) : ((x.toNat : Int) = (y.toNat : Int)) = (x = y) := by
  apply propext
  exact ⟨fun h => UInt8.toNat_inj.1 (by omega), fun h => by rw [h]⟩
theorem of_f (x : UInt8) (far : Bool) : S.jacquardref18_Of.f (x.toNat : Int) far = some (ofT x far) := by
  have e104 : ((x.toNat : Int) = 104) = (x = 104) := u8_int x 104
  have e119 : ((x.toNat : Int) = 119) = (x = 119) := u8_int x 119
  have e105 : ((x.toNat : Int) = 105) = (x = 105) := u8_int x 105
  have e115 : ((x.toNat : Int) = 115) = (x = 115) := u8_int x 115
  have e117 : ((x.toNat : Int) = 117) = (x = 117) := u8_int x 117
  have e112 : ((x.toNat : Int) = 112) = (x = 112) := u8_int x 112
  have e116 : ((x.toNat : Int) = 116) = (x = 116) := u8_int x 116
  have e98 : ((x.toNat : Int) = 98) = (x = 98) := u8_int x 98
  unfold S.jacquardref18_Of.f ofT
  simp only [e104, e119, e105, e115, e117, e112, e116, e98]
  repeat' split
  all_goals rfl
theorem of_any (x : UInt8) (far : Bool) (w : World) : Calls Tryd.prog 51 #[.int .u8 x.toNat, .bool far] w fun e w' => e = .returned (.agg #[.int .i64 (ofT x far).1, .int .i64 (ofT x far).2.1, .int .i64 (ofT x far).2.2]) ∧ Below w.heap.size w w' :=
  S.jacquardref18_Of.calls (x.toNat : Int) far _ _ _ w (of_f x far)
theorem ofBytes_eq (x : UInt8) : (ofT x false).1 = ofBytes x := by
  unfold ofT ofBytes
  repeat' split
  all_goals first | rfl | simp_all

theorem field_number (x y z : Value) (W : World) : (Instr.field 70 (.agg #[x, y, z]) 0).run Tryd.prog W = .ok x W := by
  kernel_rfl
set_option maxRecDepth 100000 in
set_option maxHeartbeats 4000000 in
theorem plain_any (m : M) (a : Option Addr) (c0 : Nat) (w : World) (har : ArgsIn w m a c0) (hsmall : m.args.length ≤ 1000000) : Calls Tryd.prog 27 #[.agg (cellsM m a c0)] w (HandsM (plainM m) w) := by
  have HA := Lib.hid har
  clear har
  unfold cellsM
  go_enter Tryd.func27, Tryd.ntmps27
  go_wp2_with fail
  have hi : MachAt (((w.alloc (.cells #[.int .i64 m.op, .int .i64 m.d, .int .i64 m.e, .int .i64 m.a, .int .i64 m.b, .int .i64 m.c, .int .i32 m.imm, .slice a m.args.length c0] 24)).alloc (.cells #[.int .i64 0, .int .i64 0, .int .i64 0, .int .i64 0, .int .i64 0, .int .i64 0, .int .i32 0, .slice none 0 0] 24)).alloc (.cells #[.int .i64 m.op, .int .i64 0, .int .i64 0, .int .i64 0, .int .i64 0, .int .i64 0, .int .i32 0, .slice none 0 0] 24)) w.heap.size m a c0 := alloc_old (alloc_old (alloc_at _ _))
  have hr : MachAt (((w.alloc (.cells #[.int .i64 m.op, .int .i64 m.d, .int .i64 m.e, .int .i64 m.a, .int .i64 m.b, .int .i64 m.c, .int .i32 m.imm, .slice a m.args.length c0] 24)).alloc (.cells #[.int .i64 0, .int .i64 0, .int .i64 0, .int .i64 0, .int .i64 0, .int .i64 0, .int .i32 0, .slice none 0 0] 24)).alloc (.cells #[.int .i64 m.op, .int .i64 0, .int .i64 0, .int .i64 0, .int .i64 0, .int .i64 0, .int .i32 0, .slice none 0 0] 24)) (w.heap.size + 1) zeroM none 0 := by
    have h := alloc_old (o := .cells #[.int .i64 m.op, .int .i64 0, .int .i64 0, .int .i64 0, .int .i64 0, .int .i64 0, .int .i32 0, .slice none 0 0] 24) (alloc_at (w.alloc (.cells #[.int .i64 m.op, .int .i64 m.d, .int .i64 m.e, .int .i64 m.a, .int .i64 m.b, .int .i64 m.c, .int .i32 m.imm, .slice a m.args.length c0] 24)) (.cells #[.int .i64 0, .int .i64 0, .int .i64 0, .int .i64 0, .int .i64 0, .int .i64 0, .int .i32 0, .slice none 0 0] 24))
    rw [alloc_size] at h
    exact h
  have hg : MachAt (((w.alloc (.cells #[.int .i64 m.op, .int .i64 m.d, .int .i64 m.e, .int .i64 m.a, .int .i64 m.b, .int .i64 m.c, .int .i32 m.imm, .slice a m.args.length c0] 24)).alloc (.cells #[.int .i64 0, .int .i64 0, .int .i64 0, .int .i64 0, .int .i64 0, .int .i64 0, .int .i32 0, .slice none 0 0] 24)).alloc (.cells #[.int .i64 m.op, .int .i64 0, .int .i64 0, .int .i64 0, .int .i64 0, .int .i64 0, .int .i32 0, .slice none 0 0] 24)) (w.heap.size + 1 + 1) (startP m) none 0 := by
    have h := alloc_at ((w.alloc (.cells #[.int .i64 m.op, .int .i64 m.d, .int .i64 m.e, .int .i64 m.a, .int .i64 m.b, .int .i64 m.c, .int .i32 m.imm, .slice a m.args.length c0] 24)).alloc (.cells #[.int .i64 0, .int .i64 0, .int .i64 0, .int .i64 0, .int .i64 0, .int .i64 0, .int .i32 0, .slice none 0 0] 24)) (.cells #[.int .i64 m.op, .int .i64 0, .int .i64 0, .int .i64 0, .int .i64 0, .int .i64 0, .int .i32 0, .slice none 0 0] 24)
    rw [alloc_size, alloc_size] at h
    exact h
  have hz : (((w.alloc (.cells #[.int .i64 m.op, .int .i64 m.d, .int .i64 m.e, .int .i64 m.a, .int .i64 m.b, .int .i64 m.c, .int .i32 m.imm, .slice a m.args.length c0] 24)).alloc (.cells #[.int .i64 0, .int .i64 0, .int .i64 0, .int .i64 0, .int .i64 0, .int .i64 0, .int .i32 0, .slice none 0 0] 24)).alloc (.cells #[.int .i64 m.op, .int .i64 0, .int .i64 0, .int .i64 0, .int .i64 0, .int .i64 0, .int .i32 0, .slice none 0 0] 24)).heap.size = w.heap.size + 1 + 1 + 1 := by simp
  have hb := below_alloc (below_alloc (below_alloc (Below.refl w.heap.size w) (.cells #[.int .i64 m.op, .int .i64 m.d, .int .i64 m.e, .int .i64 m.a, .int .i64 m.b, .int .i64 m.c, .int .i32 m.imm, .slice a m.args.length c0] 24)) (.cells #[.int .i64 0, .int .i64 0, .int .i64 0, .int .i64 0, .int .i64 0, .int .i64 0, .int .i32 0, .slice none 0 0] 24)) (.cells #[.int .i64 m.op, .int .i64 0, .int .i64 0, .int .i64 0, .int .i64 0, .int .i64 0, .int .i32 0, .slice none 0 0] 24)
  generalize ((w.alloc (.cells #[.int .i64 m.op, .int .i64 m.d, .int .i64 m.e, .int .i64 m.a, .int .i64 m.b, .int .i64 m.c, .int .i32 m.imm, .slice a m.args.length c0] 24)).alloc (.cells #[.int .i64 0, .int .i64 0, .int .i64 0, .int .i64 0, .int .i64 0, .int .i64 0, .int .i32 0, .slice none 0 0] 24)).alloc (.cells #[.int .i64 m.op, .int .i64 0, .int .i64 0, .int .i64 0, .int .i64 0, .int .i64 0, .int .i32 0, .slice none 0 0] 24) = V at hi hr hg hz hb ⊢
  refine (fields_any m.op V).mono ?_
  rintro e w1 ⟨rfl, hb1⟩
  have hs1 := hb1.size
  have HI1 := Lib.hid (hi.below hb1)
  have HR1 := Lib.hid (hr.below hb1)
  have HG1 := Lib.hid (hg.below hb1)
  have HB1 := Lib.hid (below_step hb hb1)
  have hw1 : w.heap.size + 1 + 1 + 1 ≤ w1.heap.size := by omega
  clear hi hr hg hz hb hb1 hs1
  have hfl := fields_short m.op
  have hsz := bs_size (fieldsOf m.op)
  go_wp2_with fail
  go_loopw [5] (fun i wl => ∃ (k : Nat) (A : Option Addr) (c : Nat), i = .int .i64 (k : Int) ∧ k ≤ (fieldsOf m.op).length ∧ w.heap.size + 1 + 1 + 1 ≤ wl.heap.size ∧ Aside0 (MachAt wl (w.heap.size + 1 + 1) (partP m k) A c) ∧ Aside0 (ArgsIn wl (partP m k) A c) ∧ Aside0 (∀ ad, A = some ad → w.heap.size + 1 + 1 + 1 ≤ ad.block) ∧
      Aside0 (MachAt wl w.heap.size m a c0) ∧ Aside0 (MachAt wl (w.heap.size + 1) zeroM none 0) ∧ Aside0 (Below w.heap.size w wl)) (fun i _ => (fieldsOf m.op).length - (intOf i).toNat)
  case atStart => exact ⟨0, none, 0, rfl, Nat.zero_le _, hw1, ⟨HG1.out⟩, ⟨args_none (m := partP m 0) rfl _⟩, ⟨fun ad h => by cases h⟩, ⟨HI1.out⟩, ⟨HR1.out⟩, ⟨HB1.out⟩⟩
  case round =>
    clear HI1 HR1 HG1 HB1 hw1
    obtain ⟨k, A, c, rfl, hk, hwr, HG, HAR, HF, HI, HR, HB⟩ := hrel
    by_cases hlt : k < (fieldsOf m.op).length
    · have hk2 : k < (bs (fieldsOf m.op)).size := by rw [hsz]; exact hlt
      have hsucc : partP m (k + 1) = stepP m (partP m k) ((bs (fieldsOf m.op))[k]'hk2) := partP_succ m k hlt
      obtain ⟨i0, i1, i2, i3, i4, i5, i6, i7, iz⟩ := HI.out.cells
      have gz := HG.out.cells.2.2.2.2.2.2.2.2
      have g1 := HG.out.cells.2.1
      have g2 := HG.out.cells.2.2.1
      have g3 := HG.out.cells.2.2.2.1
      have g4 := HG.out.cells.2.2.2.2.1
      have g5 := HG.out.cells.2.2.2.2.2.1
      have g7 := HG.out.cells.2.2.2.2.2.2.2.1
      by_cases n68 : ((bs (fieldsOf m.op))[k]'hk2) = 68
      · have hx := n68
        have q68 : ((((bs (fieldsOf m.op))[k]'hk2).toNat : Int) == 68) = true := by rw [hx]; rfl
        have hst : partP m (k + 1) = { partP m k with d := m.d } := by rw [hsucc, hx]; rfl
        have HST := Lib.hid hst
        clear hx hsucc hst n68 
        go_wp2_with fail
        go_roundw
        case rel =>
          have hne : ∀ ad, A = some ad → ad.block ≠ w.heap.size + 1 + 1 := fun ad ha => by have := HF.out ad ha; omega
          refine ⟨k + 1, A, c, by go_num, by omega, by simpa using hwr, ⟨?_⟩, ⟨?_⟩, HF, ⟨set_other HI.out (by omega) _ _⟩, ⟨set_other HR.out (by omega) _ _⟩, ⟨below_set HB.out (by omega) _ _⟩⟩
          · rw [HST.out]
            exact set_cells HG.out 1 (.int .i64 m.d)
          · rw [HST.out]
            exact (HAR.out.set hne _ _).same rfl
        case measure => simp [intOf]; omega
      by_cases n65 : ((bs (fieldsOf m.op))[k]'hk2) = 65
      · have hx := n65
        have q68 : ((((bs (fieldsOf m.op))[k]'hk2).toNat : Int) == 68) = false := u8_ne rfl n68
        have q65 : ((((bs (fieldsOf m.op))[k]'hk2).toNat : Int) == 65) = true := by rw [hx]; rfl
        have hst : partP m (k + 1) = { partP m k with a := m.a } := by rw [hsucc, hx]; rfl
        have HST := Lib.hid hst
        clear hx hsucc hst n65 n68
        go_wp2_with fail
        go_roundw
        case rel =>
          have hne : ∀ ad, A = some ad → ad.block ≠ w.heap.size + 1 + 1 := fun ad ha => by have := HF.out ad ha; omega
          refine ⟨k + 1, A, c, by go_num, by omega, by simpa using hwr, ⟨?_⟩, ⟨?_⟩, HF, ⟨set_other HI.out (by omega) _ _⟩, ⟨set_other HR.out (by omega) _ _⟩, ⟨below_set HB.out (by omega) _ _⟩⟩
          · rw [HST.out]
            exact set_cells HG.out 3 (.int .i64 m.a)
          · rw [HST.out]
            exact (HAR.out.set hne _ _).same rfl
        case measure => simp [intOf]; omega
      by_cases n66 : ((bs (fieldsOf m.op))[k]'hk2) = 66
      · have hx := n66
        have q68 : ((((bs (fieldsOf m.op))[k]'hk2).toNat : Int) == 68) = false := u8_ne rfl n68
        have q65 : ((((bs (fieldsOf m.op))[k]'hk2).toNat : Int) == 65) = false := u8_ne rfl n65
        have q66 : ((((bs (fieldsOf m.op))[k]'hk2).toNat : Int) == 66) = true := by rw [hx]; rfl
        have hst : partP m (k + 1) = { partP m k with b := m.b } := by rw [hsucc, hx]; rfl
        have HST := Lib.hid hst
        clear hx hsucc hst n66 n68 n65
        go_wp2_with fail
        go_roundw
        case rel =>
          have hne : ∀ ad, A = some ad → ad.block ≠ w.heap.size + 1 + 1 := fun ad ha => by have := HF.out ad ha; omega
          refine ⟨k + 1, A, c, by go_num, by omega, by simpa using hwr, ⟨?_⟩, ⟨?_⟩, HF, ⟨set_other HI.out (by omega) _ _⟩, ⟨set_other HR.out (by omega) _ _⟩, ⟨below_set HB.out (by omega) _ _⟩⟩
          · rw [HST.out]
            exact set_cells HG.out 4 (.int .i64 m.b)
          · rw [HST.out]
            exact (HAR.out.set hne _ _).same rfl
        case measure => simp [intOf]; omega
      by_cases n67 : ((bs (fieldsOf m.op))[k]'hk2) = 67
      · have hx := n67
        have q68 : ((((bs (fieldsOf m.op))[k]'hk2).toNat : Int) == 68) = false := u8_ne rfl n68
        have q65 : ((((bs (fieldsOf m.op))[k]'hk2).toNat : Int) == 65) = false := u8_ne rfl n65
        have q66 : ((((bs (fieldsOf m.op))[k]'hk2).toNat : Int) == 66) = false := u8_ne rfl n66
        have q67 : ((((bs (fieldsOf m.op))[k]'hk2).toNat : Int) == 67) = true := by rw [hx]; rfl
        have hst : partP m (k + 1) = { partP m k with c := m.c } := by rw [hsucc, hx]; rfl
        have HST := Lib.hid hst
        clear hx hsucc hst n67 n68 n65 n66
        go_wp2_with fail
        go_roundw
        case rel =>
          have hne : ∀ ad, A = some ad → ad.block ≠ w.heap.size + 1 + 1 := fun ad ha => by have := HF.out ad ha; omega
          refine ⟨k + 1, A, c, by go_num, by omega, by simpa using hwr, ⟨?_⟩, ⟨?_⟩, HF, ⟨set_other HI.out (by omega) _ _⟩, ⟨set_other HR.out (by omega) _ _⟩, ⟨below_set HB.out (by omega) _ _⟩⟩
          · rw [HST.out]
            exact set_cells HG.out 5 (.int .i64 m.c)
          · rw [HST.out]
            exact (HAR.out.set hne _ _).same rfl
        case measure => simp [intOf]; omega
      by_cases n116 : ((bs (fieldsOf m.op))[k]'hk2) = 116
      · have hx := n116
        have q68 : ((((bs (fieldsOf m.op))[k]'hk2).toNat : Int) == 68) = false := u8_ne rfl n68
        have q65 : ((((bs (fieldsOf m.op))[k]'hk2).toNat : Int) == 65) = false := u8_ne rfl n65
        have q66 : ((((bs (fieldsOf m.op))[k]'hk2).toNat : Int) == 66) = false := u8_ne rfl n66
        have q67 : ((((bs (fieldsOf m.op))[k]'hk2).toNat : Int) == 67) = false := u8_ne rfl n67
        have q116 : ((((bs (fieldsOf m.op))[k]'hk2).toNat : Int) == 116) = true := by rw [hx]; rfl
        have hst : partP m (k + 1) = { partP m k with args := m.args } := by rw [hsucc, hx]; rfl
        have HST := Lib.hid hst
        clear hx hsucc hst n116 n68 n65 n66 n67
        have hO := Lib.hid (World.ownsRow_made (base := wr.heap.size) (e := 3) (size := 1) wr #[] 0 (Nat.le_refl _) (by decide) (by simp))
        have hRD := Lib.hid ((HA.out.below HB.out).reads.below (below_alloc (Below.refl wr.heap.size wr) (.cells #[] 3)))
        have i7o : (wr.alloc (.cells #[] 3)).cell? ⟨w.heap.size, 7, none⟩ = some (.slice a m.args.length c0) := (cell_blk (alloc_old (o := .cells #[] 3) HI.out) 7).trans rfl
        go_wp2_with (at_builtin; (refine print_append_row wr.heap.size rfl (.tmp 45) (.tmp 47) 22 3 .i64 8 rfl Tryd.underlying22 info_int (by decide) _ [] m.args a _ c0 rfl rfl hO.out hRD.out (Below.refl _ _) (by simp) (by rw [List.length_nil]; omega) ?_; intro v1 w1 hown hB _ _; rw [List.nil_append] at hown; obtain ⟨A1, c1, hv1, hr1, hc1, hf1⟩ := own_args hown; subst hv1; have hbw := (below_alloc (Below.refl wr.heap.size wr) (.cells #[] 3)).trans hB; have hgg := HG.out.below hbw; have gz := hgg.cells.2.2.2.2.2.2.2.2; have g7 := hgg.cells.2.2.2.2.2.2.2.1; have HGG := Lib.hid hgg; have HBW := Lib.hid hbw; have HR1 := Lib.hid hr1; have HC1 := Lib.hid hc1; have HF1 := Lib.hid hf1; clear hgg hbw hown hr1 hc1 hf1 hB))
        go_roundw
        case rel =>
          have hne : ∀ ad, A1 = some ad → ad.block ≠ w.heap.size + 1 + 1 := fun ad ha => by have := HF1.out ad ha; omega
          have hz := HBW.out.size
          refine ⟨k + 1, A1, c1, by go_num, by omega, by simp; omega, ⟨?_⟩, ⟨?_⟩, ⟨fun ad ha => by have := HF1.out ad ha; omega⟩, ⟨set_other (HI.out.below HBW.out) (by omega) _ _⟩, ⟨set_other (HR.out.below HBW.out) (by omega) _ _⟩, ⟨below_set (below_step HB.out HBW.out) (by omega) _ _⟩⟩
          · rw [HST.out]
            exact set_cells HGG.out 7 (.slice A1 m.args.length c1)
          · rw [HST.out]
            exact (show ArgsIn w1 { partP m k with args := m.args } A1 c1 from ⟨HR1.out, HC1.out⟩).set hne _ _
        case measure => simp [intOf]; omega
      by_cases n110 : ((bs (fieldsOf m.op))[k]'hk2) = 110
      · have hx := n110
        have q68 : ((((bs (fieldsOf m.op))[k]'hk2).toNat : Int) == 68) = false := u8_ne rfl n68
        have q65 : ((((bs (fieldsOf m.op))[k]'hk2).toNat : Int) == 65) = false := u8_ne rfl n65
        have q66 : ((((bs (fieldsOf m.op))[k]'hk2).toNat : Int) == 66) = false := u8_ne rfl n66
        have q67 : ((((bs (fieldsOf m.op))[k]'hk2).toNat : Int) == 67) = false := u8_ne rfl n67
        have q116 : ((((bs (fieldsOf m.op))[k]'hk2).toNat : Int) == 116) = false := u8_ne rfl n116
        have q110 : ((((bs (fieldsOf m.op))[k]'hk2).toNat : Int) == 110) = true := by rw [hx]; rfl
        have hst : partP m (k + 1) = { partP m k with args := m.args } := by rw [hsucc, hx]; rfl
        have HST := Lib.hid hst
        clear hx hsucc hst n110 n68 n65 n66 n67 n116
        have hO := Lib.hid (World.ownsRow_made (base := wr.heap.size) (e := 3) (size := 1) wr #[] 0 (Nat.le_refl _) (by decide) (by simp))
        have hRD := Lib.hid ((HA.out.below HB.out).reads.below (below_alloc (Below.refl wr.heap.size wr) (.cells #[] 3)))
        have i7o : (wr.alloc (.cells #[] 3)).cell? ⟨w.heap.size, 7, none⟩ = some (.slice a m.args.length c0) := (cell_blk (alloc_old (o := .cells #[] 3) HI.out) 7).trans rfl
        go_wp2_with (at_builtin; (refine print_append_row wr.heap.size rfl (.tmp 45) (.tmp 47) 22 3 .i64 8 rfl Tryd.underlying22 info_int (by decide) _ [] m.args a _ c0 rfl rfl hO.out hRD.out (Below.refl _ _) (by simp) (by rw [List.length_nil]; omega) ?_; intro v1 w1 hown hB _ _; rw [List.nil_append] at hown; obtain ⟨A1, c1, hv1, hr1, hc1, hf1⟩ := own_args hown; subst hv1; have hbw := (below_alloc (Below.refl wr.heap.size wr) (.cells #[] 3)).trans hB; have hgg := HG.out.below hbw; have gz := hgg.cells.2.2.2.2.2.2.2.2; have g7 := hgg.cells.2.2.2.2.2.2.2.1; have HGG := Lib.hid hgg; have HBW := Lib.hid hbw; have HR1 := Lib.hid hr1; have HC1 := Lib.hid hc1; have HF1 := Lib.hid hf1; clear hgg hbw hown hr1 hc1 hf1 hB))
        go_roundw
        case rel =>
          have hne : ∀ ad, A1 = some ad → ad.block ≠ w.heap.size + 1 + 1 := fun ad ha => by have := HF1.out ad ha; omega
          have hz := HBW.out.size
          refine ⟨k + 1, A1, c1, by go_num, by omega, by simp; omega, ⟨?_⟩, ⟨?_⟩, ⟨fun ad ha => by have := HF1.out ad ha; omega⟩, ⟨set_other (HI.out.below HBW.out) (by omega) _ _⟩, ⟨set_other (HR.out.below HBW.out) (by omega) _ _⟩, ⟨below_set (below_step HB.out HBW.out) (by omega) _ _⟩⟩
          · rw [HST.out]
            exact set_cells HGG.out 7 (.slice A1 m.args.length c1)
          · rw [HST.out]
            exact (show ArgsIn w1 { partP m k with args := m.args } A1 c1 from ⟨HR1.out, HC1.out⟩).set hne _ _
        case measure => simp [intOf]; omega
      by_cases n101 : ((bs (fieldsOf m.op))[k]'hk2) = 101
      · have hx := n101
        have q68 : ((((bs (fieldsOf m.op))[k]'hk2).toNat : Int) == 68) = false := u8_ne rfl n68
        have q65 : ((((bs (fieldsOf m.op))[k]'hk2).toNat : Int) == 65) = false := u8_ne rfl n65
        have q66 : ((((bs (fieldsOf m.op))[k]'hk2).toNat : Int) == 66) = false := u8_ne rfl n66
        have q67 : ((((bs (fieldsOf m.op))[k]'hk2).toNat : Int) == 67) = false := u8_ne rfl n67
        have q116 : ((((bs (fieldsOf m.op))[k]'hk2).toNat : Int) == 116) = false := u8_ne rfl n116
        have q110 : ((((bs (fieldsOf m.op))[k]'hk2).toNat : Int) == 110) = false := u8_ne rfl n110
        have q101 : ((((bs (fieldsOf m.op))[k]'hk2).toNat : Int) == 101) = true := by rw [hx]; rfl
        have hst : partP m (k + 1) = { partP m k with e := m.e } := by rw [hsucc, hx]; rfl
        have HST := Lib.hid hst
        clear hx hsucc hst n101 n68 n65 n66 n67 n116 n110
        go_wp2_with fail
        go_roundw
        case rel =>
          have hne : ∀ ad, A = some ad → ad.block ≠ w.heap.size + 1 + 1 := fun ad ha => by have := HF.out ad ha; omega
          refine ⟨k + 1, A, c, by go_num, by omega, by simpa using hwr, ⟨?_⟩, ⟨?_⟩, HF, ⟨set_other HI.out (by omega) _ _⟩, ⟨set_other HR.out (by omega) _ _⟩, ⟨below_set HB.out (by omega) _ _⟩⟩
          · rw [HST.out]
            exact set_cells HG.out 2 (.int .i64 m.e)
          · rw [HST.out]
            exact (HAR.out.set hne _ _).same rfl
        case measure => simp [intOf]; omega
      have q68 : ((((bs (fieldsOf m.op))[k]'hk2).toNat : Int) == 68) = false := u8_ne rfl n68
      have q65 : ((((bs (fieldsOf m.op))[k]'hk2).toNat : Int) == 65) = false := u8_ne rfl n65
      have q66 : ((((bs (fieldsOf m.op))[k]'hk2).toNat : Int) == 66) = false := u8_ne rfl n66
      have q67 : ((((bs (fieldsOf m.op))[k]'hk2).toNat : Int) == 67) = false := u8_ne rfl n67
      have q116 : ((((bs (fieldsOf m.op))[k]'hk2).toNat : Int) == 116) = false := u8_ne rfl n116
      have q110 : ((((bs (fieldsOf m.op))[k]'hk2).toNat : Int) == 110) = false := u8_ne rfl n110
      have q101 : ((((bs (fieldsOf m.op))[k]'hk2).toNat : Int) == 101) = false := u8_ne rfl n101
      have hst : partP m (k + 1) = partP m k := by
        rw [hsucc]
        unfold stepP
        rw [if_neg n68, if_neg n65, if_neg n66, if_neg n67, if_neg (by rintro (h | h); exact n116 h; exact n110 h), if_neg n101]
      have HST := Lib.hid hst
      clear hsucc hst n68 n65 n66 n67 n116 n110 n101
      go_wp2_with fail
      go_roundw
      case rel => exact ⟨k + 1, A, c, by go_num, by omega, hwr, ⟨by rw [HST.out]; exact HG.out⟩, ⟨by rw [HST.out]; exact HAR.out⟩, HF, HI, HR, HB⟩
      case measure => simp [intOf]; omega
    · obtain rfl : k = (fieldsOf m.op).length := by omega
      obtain ⟨i0, i1, i2, i3, i4, i5, i6, i7, iz⟩ := HI.out.cells
      obtain ⟨g0, g1, g2, g3, g4, g5, g6, g7, gz⟩ := HG.out.cells
      have hop := partP_op m (fieldsOf m.op).length
      have hend := endP_plain m
      unfold endP at hend
      dsimp only at hend
      have hlast : ((fieldsOf m.op).length = 0 ∧ lastF m.op = 0) ∨ (0 < (fieldsOf m.op).length ∧ ∀ h : (fieldsOf m.op).length - 1 < (bs (fieldsOf m.op)).size, (bs (fieldsOf m.op))[(fieldsOf m.op).length - 1]'h = lastF m.op) := by
        unfold lastF
        by_cases h0 : (fieldsOf m.op).length = 0
        · refine .inl ⟨h0, ?_⟩
          rw [List.eq_nil_of_length_eq_zero h0]
          rfl
        · refine .inr ⟨by omega, fun h => ?_⟩
          have hne : fieldsOf m.op ≠ [] := fun e => h0 (by rw [e]; rfl)
          rw [List.getLastD_eq_getLast?, List.getLast?_eq_some_getLast hne, Option.getD_some, List.getLast_eq_getElem]
          rfl
      have HLAST := Lib.hid hlast
      have HEND := Lib.hid hend
      clear hlast hend
      go_upto_if 57 with (fail)
      go_cut [6] (fun v w' => v = .int .u8 (lastF m.op).toNat ∧ wr = w')
      case first =>
        rcases HLAST.out with ⟨h0, h1⟩ | ⟨h0, h1⟩
        · have q0 : decide (0 < (fieldsOf m.op).length) = false := by rw [h0]; rfl
          have H1 := Lib.hid h1
          have H0 := Lib.hid h0
          clear h0 h1
          go_wp2_with fail
          all_goals
            go_meet
            case rel =>
              first
              | exact ⟨by rw [H1.out]; rfl, rfl⟩
              | (exfalso; have h00 := H0.out; omega)
              | (exfalso; have h00 := H0.out; simp_all)
        · have q0 : decide (0 < (fieldsOf m.op).length) = true := by simpa using h0
          have hlt2 : (fieldsOf m.op).length - 1 < (bs (fieldsOf m.op)).size := by rw [hsz]; omega
          have H1 := Lib.hid (h1 hlt2)
          have e1 : (((fieldsOf m.op).length : Int) - 1).toNat = (fieldsOf m.op).length - 1 := by omega
          clear h1
          go_wp2_with fail
          go_meet
          case rel => exact ⟨by rw [H1.out], rfl⟩
      obtain ⟨rfl, rfl⟩ := hcut
      clear HLAST
      go_wp2_with fail
      refine (of_any (lastF m.op) false _).mono ?_
      rintro e w2 ⟨rfl, hb2⟩
      rw [ofBytes_eq]
      have hI2 := HI.out.below hb2
      have hR2 := HR.out.below hb2
      have hG2 := HG.out.below hb2
      have hA2 := HAR.out.below hb2
      have hB2 := below_step HB.out hb2
      clear i0 i1 i2 i3 i4 i5 i6 i7 iz g0 g1 g2 g3 g4 g5 g6 g7 gz
      obtain ⟨i0, i1, i2, i3, i4, i5, i6, i7, iz⟩ := hI2.cells
      obtain ⟨g0, g1, g2, g3, g4, g5, g6, g7, gz⟩ := hG2.cells
      have HI2 := Lib.hid hI2
      have HR2 := Lib.hid hR2
      have HG2 := Lib.hid hG2
      have HA2 := Lib.hid hA2
      have HB2 := Lib.hid hB2
      generalize hgp : partP m (fieldsOf m.op).length = g at HG2 HA2 HEND hop g0 g1 g2 g3 g4 g5 g6 g7
      have hne : ∀ ad, A = some ad → ad.block ≠ w.heap.size + 1 + 1 := fun ad ha => by have := HF.out ad ha; omega
      have HNE := Lib.hid hne
      clear hb2 hI2 hR2 hG2 hA2 hB2 HI HR HG HAR HB hgp hne
      have hfld := field_number
      have hcA : (decide (0 < ofBytes (lastF m.op)) = false ∧ ¬ (0 < ofBytes (lastF m.op) ∧ lastF m.op ≠ 116)) ∨ (decide (0 < ofBytes (lastF m.op)) = true ∧ (((lastF m.op).toNat : Int) != 116) = false ∧ ¬ (0 < ofBytes (lastF m.op) ∧ lastF m.op ≠ 116)) ∨ (decide (0 < ofBytes (lastF m.op)) = true ∧ (((lastF m.op).toNat : Int) != 116) = true ∧ (0 < ofBytes (lastF m.op) ∧ lastF m.op ≠ 116)) := by
        by_cases h1 : 0 < ofBytes (lastF m.op)
        · by_cases h2 : lastF m.op = 116
          · exact .inr (.inl ⟨by simpa using h1, by rw [h2]; rfl, fun h => h.2 h2⟩)
          · have h3 : (((lastF m.op).toNat : Int) == 116) = false := u8_ne rfl h2
            exact .inr (.inr ⟨by simpa using h1, by rw [bne, h3]; rfl, h1, h2⟩)
        · exact .inl ⟨by simpa using h1, fun h => h1 h.1⟩
      have hcB : ((((lastF m.op).toNat : Int) == 98) = true ∧ (lastF m.op = 98 ∨ m.op = 29)) ∨ ((((lastF m.op).toNat : Int) == 98) = false ∧ (m.op == 29) = true ∧ (lastF m.op = 98 ∨ m.op = 29)) ∨ ((((lastF m.op).toNat : Int) == 98) = false ∧ (m.op == 29) = false ∧ ¬ (lastF m.op = 98 ∨ m.op = 29)) := by
        by_cases h1 : lastF m.op = 98
        · exact .inl ⟨by rw [h1]; rfl, .inl h1⟩
        · by_cases h2 : m.op = 29
          · exact .inr (.inl ⟨u8_ne rfl h1, by simpa using h2, .inr h2⟩)
          · exact .inr (.inr ⟨u8_ne rfl h1, by simpa using h2, fun h => by rcases h with h | h; exact h1 h; exact h2 h⟩)
      rcases hcA with ⟨q1, hA⟩ | ⟨q1, q2, hA⟩ | ⟨q1, q2, hA⟩
      · skip
        rcases hcB with ⟨q3, hB⟩ | ⟨q3, q4, hB⟩ | ⟨q3, q4, hB⟩
        · have hpl : plainM m = { (g : M) with e := m.e } := by rw [← HEND.out, if_pos hB, if_neg hA]
          have HPL := Lib.hid hpl
          clear hA hB hpl
          go_upto_region 27 with (fail)
          have hg9 : MachAt (w2.setCell ⟨w.heap.size + 1 + 1, 2, none⟩ (.int .i64 m.e)) (w.heap.size + 1 + 1) (plainM m) A c := by rw [HPL.out]; exact (set_cells HG2.out 2 (.int .i64 m.e))
          have ha9 : ArgsIn (w2.setCell ⟨w.heap.size + 1 + 1, 2, none⟩ (.int .i64 m.e)) (plainM m) A c := by rw [HPL.out]; exact ((HA2.out.set HNE.out 2 (.int .i64 m.e))).same rfl
          have hr9 : MachAt (w2.setCell ⟨w.heap.size + 1 + 1, 2, none⟩ (.int .i64 m.e)) (w.heap.size + 1) zeroM none 0 := (set_other HR2.out (by omega) 2 (.int .i64 m.e))
          have hb9 : Below w.heap.size w (w2.setCell ⟨w.heap.size + 1 + 1, 2, none⟩ (.int .i64 m.e)) := (below_set HB2.out (by omega) 2 (.int .i64 m.e))
          clear HPL HG2 HA2 HR2 HB2 HI2 i0 i1 i2 i3 i4 i5 i6 i7 iz g0 g1 g2 g3 g4 g5 g6 g7 gz
          generalize (w2.setCell ⟨w.heap.size + 1 + 1, 2, none⟩ (.int .i64 m.e)) = W9 at hg9 ha9 hr9 hb9 ⊢
          obtain ⟨k0, k1, k2, k3, k4, k5, k6, k7, kz⟩ := hg9.cells
          obtain ⟨r0, r1, r2, r3, r4, r5, r6, r7, rz⟩ := hr9.cells
          have HA9 := Lib.hid ha9
          have HB9 := Lib.hid hb9
          have HR9 := Lib.hid hr9
          clear hg9 ha9 hb9 hr9 HEND
          go_wp2_with fail
          have hne1 : ∀ ad, A = some ad → ad.block ≠ w.heap.size + 1 := fun ad ha => by have := HF.out ad ha; omega
          have h8 := set8_grown W9 (w.heap.size + 1) (plainM m) A c
          have ha8 := HA9.out.grown h8 hne1
          have hb8 := grown_low HB9.out h8 (by omega)
          unfold set8 at ha8 hb8
          refine bodyPost_ret (v := .agg #[.int .i64 (plainM m).op, .int .i64 (plainM m).d, .int .i64 (plainM m).e, .int .i64 (plainM m).a, .int .i64 (plainM m).b, .int .i64 (plainM m).c, .int .i32 (plainM m).imm, .slice A (plainM m).args.length c]) (by simp [results, Tryd.results27, go_sem, r0, r1, r2, r3, r4, r5, r6, r7]) rfl ?_
          exact ⟨A, c, rfl, hb8, ha8, fun ad ha => by have := HF.out ad ha; omega⟩
        · have hpl : plainM m = { (g : M) with e := m.e } := by rw [← HEND.out, if_pos hB, if_neg hA]
          have HPL := Lib.hid hpl
          clear hA hB hpl
          go_upto_region 27 with (fail)
          have hg9 : MachAt (w2.setCell ⟨w.heap.size + 1 + 1, 2, none⟩ (.int .i64 m.e)) (w.heap.size + 1 + 1) (plainM m) A c := by rw [HPL.out]; exact (set_cells HG2.out 2 (.int .i64 m.e))
          have ha9 : ArgsIn (w2.setCell ⟨w.heap.size + 1 + 1, 2, none⟩ (.int .i64 m.e)) (plainM m) A c := by rw [HPL.out]; exact ((HA2.out.set HNE.out 2 (.int .i64 m.e))).same rfl
          have hr9 : MachAt (w2.setCell ⟨w.heap.size + 1 + 1, 2, none⟩ (.int .i64 m.e)) (w.heap.size + 1) zeroM none 0 := (set_other HR2.out (by omega) 2 (.int .i64 m.e))
          have hb9 : Below w.heap.size w (w2.setCell ⟨w.heap.size + 1 + 1, 2, none⟩ (.int .i64 m.e)) := (below_set HB2.out (by omega) 2 (.int .i64 m.e))
          clear HPL HG2 HA2 HR2 HB2 HI2 i0 i1 i2 i3 i4 i5 i6 i7 iz g0 g1 g2 g3 g4 g5 g6 g7 gz
          generalize (w2.setCell ⟨w.heap.size + 1 + 1, 2, none⟩ (.int .i64 m.e)) = W9 at hg9 ha9 hr9 hb9 ⊢
          obtain ⟨k0, k1, k2, k3, k4, k5, k6, k7, kz⟩ := hg9.cells
          obtain ⟨r0, r1, r2, r3, r4, r5, r6, r7, rz⟩ := hr9.cells
          have HA9 := Lib.hid ha9
          have HB9 := Lib.hid hb9
          have HR9 := Lib.hid hr9
          clear hg9 ha9 hb9 hr9 HEND
          go_wp2_with fail
          have hne1 : ∀ ad, A = some ad → ad.block ≠ w.heap.size + 1 := fun ad ha => by have := HF.out ad ha; omega
          have h8 := set8_grown W9 (w.heap.size + 1) (plainM m) A c
          have ha8 := HA9.out.grown h8 hne1
          have hb8 := grown_low HB9.out h8 (by omega)
          unfold set8 at ha8 hb8
          refine bodyPost_ret (v := .agg #[.int .i64 (plainM m).op, .int .i64 (plainM m).d, .int .i64 (plainM m).e, .int .i64 (plainM m).a, .int .i64 (plainM m).b, .int .i64 (plainM m).c, .int .i32 (plainM m).imm, .slice A (plainM m).args.length c]) (by simp [results, Tryd.results27, go_sem, r0, r1, r2, r3, r4, r5, r6, r7]) rfl ?_
          exact ⟨A, c, rfl, hb8, ha8, fun ad ha => by have := HF.out ad ha; omega⟩
        · have hpl : plainM m = g := by rw [← HEND.out, if_neg hB, if_neg hA]
          have HPL := Lib.hid hpl
          clear hA hB hpl
          go_upto_region 27 with (fail)
          have hg9 : MachAt w2 (w.heap.size + 1 + 1) (plainM m) A c := by rw [HPL.out]; exact HG2.out
          have ha9 : ArgsIn w2 (plainM m) A c := by rw [HPL.out]; exact (HA2.out).same rfl
          have hr9 : MachAt w2 (w.heap.size + 1) zeroM none 0 := HR2.out
          have hb9 : Below w.heap.size w w2 := HB2.out
          clear HPL HG2 HA2 HR2 HB2 HI2 i0 i1 i2 i3 i4 i5 i6 i7 iz g0 g1 g2 g3 g4 g5 g6 g7 gz
          generalize w2 = W9 at hg9 ha9 hr9 hb9 ⊢
          obtain ⟨k0, k1, k2, k3, k4, k5, k6, k7, kz⟩ := hg9.cells
          obtain ⟨r0, r1, r2, r3, r4, r5, r6, r7, rz⟩ := hr9.cells
          have HA9 := Lib.hid ha9
          have HB9 := Lib.hid hb9
          have HR9 := Lib.hid hr9
          clear hg9 ha9 hb9 hr9 HEND
          go_wp2_with fail
          have hne1 : ∀ ad, A = some ad → ad.block ≠ w.heap.size + 1 := fun ad ha => by have := HF.out ad ha; omega
          have h8 := set8_grown W9 (w.heap.size + 1) (plainM m) A c
          have ha8 := HA9.out.grown h8 hne1
          have hb8 := grown_low HB9.out h8 (by omega)
          unfold set8 at ha8 hb8
          refine bodyPost_ret (v := .agg #[.int .i64 (plainM m).op, .int .i64 (plainM m).d, .int .i64 (plainM m).e, .int .i64 (plainM m).a, .int .i64 (plainM m).b, .int .i64 (plainM m).c, .int .i32 (plainM m).imm, .slice A (plainM m).args.length c]) (by simp [results, Tryd.results27, go_sem, r0, r1, r2, r3, r4, r5, r6, r7]) rfl ?_
          exact ⟨A, c, rfl, hb8, ha8, fun ad ha => by have := HF.out ad ha; omega⟩
      · skip
        rcases hcB with ⟨q3, hB⟩ | ⟨q3, q4, hB⟩ | ⟨q3, q4, hB⟩
        · have hpl : plainM m = { (g : M) with e := m.e } := by rw [← HEND.out, if_pos hB, if_neg hA]
          have HPL := Lib.hid hpl
          clear hA hB hpl
          go_upto_region 27 with (fail)
          have hg9 : MachAt (w2.setCell ⟨w.heap.size + 1 + 1, 2, none⟩ (.int .i64 m.e)) (w.heap.size + 1 + 1) (plainM m) A c := by rw [HPL.out]; exact (set_cells HG2.out 2 (.int .i64 m.e))
          have ha9 : ArgsIn (w2.setCell ⟨w.heap.size + 1 + 1, 2, none⟩ (.int .i64 m.e)) (plainM m) A c := by rw [HPL.out]; exact ((HA2.out.set HNE.out 2 (.int .i64 m.e))).same rfl
          have hr9 : MachAt (w2.setCell ⟨w.heap.size + 1 + 1, 2, none⟩ (.int .i64 m.e)) (w.heap.size + 1) zeroM none 0 := (set_other HR2.out (by omega) 2 (.int .i64 m.e))
          have hb9 : Below w.heap.size w (w2.setCell ⟨w.heap.size + 1 + 1, 2, none⟩ (.int .i64 m.e)) := (below_set HB2.out (by omega) 2 (.int .i64 m.e))
          clear HPL HG2 HA2 HR2 HB2 HI2 i0 i1 i2 i3 i4 i5 i6 i7 iz g0 g1 g2 g3 g4 g5 g6 g7 gz
          generalize (w2.setCell ⟨w.heap.size + 1 + 1, 2, none⟩ (.int .i64 m.e)) = W9 at hg9 ha9 hr9 hb9 ⊢
          obtain ⟨k0, k1, k2, k3, k4, k5, k6, k7, kz⟩ := hg9.cells
          obtain ⟨r0, r1, r2, r3, r4, r5, r6, r7, rz⟩ := hr9.cells
          have HA9 := Lib.hid ha9
          have HB9 := Lib.hid hb9
          have HR9 := Lib.hid hr9
          clear hg9 ha9 hb9 hr9 HEND
          go_wp2_with fail
          have hne1 : ∀ ad, A = some ad → ad.block ≠ w.heap.size + 1 := fun ad ha => by have := HF.out ad ha; omega
          have h8 := set8_grown W9 (w.heap.size + 1) (plainM m) A c
          have ha8 := HA9.out.grown h8 hne1
          have hb8 := grown_low HB9.out h8 (by omega)
          unfold set8 at ha8 hb8
          refine bodyPost_ret (v := .agg #[.int .i64 (plainM m).op, .int .i64 (plainM m).d, .int .i64 (plainM m).e, .int .i64 (plainM m).a, .int .i64 (plainM m).b, .int .i64 (plainM m).c, .int .i32 (plainM m).imm, .slice A (plainM m).args.length c]) (by simp [results, Tryd.results27, go_sem, r0, r1, r2, r3, r4, r5, r6, r7]) rfl ?_
          exact ⟨A, c, rfl, hb8, ha8, fun ad ha => by have := HF.out ad ha; omega⟩
        · have hpl : plainM m = { (g : M) with e := m.e } := by rw [← HEND.out, if_pos hB, if_neg hA]
          have HPL := Lib.hid hpl
          clear hA hB hpl
          go_upto_region 27 with (fail)
          have hg9 : MachAt (w2.setCell ⟨w.heap.size + 1 + 1, 2, none⟩ (.int .i64 m.e)) (w.heap.size + 1 + 1) (plainM m) A c := by rw [HPL.out]; exact (set_cells HG2.out 2 (.int .i64 m.e))
          have ha9 : ArgsIn (w2.setCell ⟨w.heap.size + 1 + 1, 2, none⟩ (.int .i64 m.e)) (plainM m) A c := by rw [HPL.out]; exact ((HA2.out.set HNE.out 2 (.int .i64 m.e))).same rfl
          have hr9 : MachAt (w2.setCell ⟨w.heap.size + 1 + 1, 2, none⟩ (.int .i64 m.e)) (w.heap.size + 1) zeroM none 0 := (set_other HR2.out (by omega) 2 (.int .i64 m.e))
          have hb9 : Below w.heap.size w (w2.setCell ⟨w.heap.size + 1 + 1, 2, none⟩ (.int .i64 m.e)) := (below_set HB2.out (by omega) 2 (.int .i64 m.e))
          clear HPL HG2 HA2 HR2 HB2 HI2 i0 i1 i2 i3 i4 i5 i6 i7 iz g0 g1 g2 g3 g4 g5 g6 g7 gz
          generalize (w2.setCell ⟨w.heap.size + 1 + 1, 2, none⟩ (.int .i64 m.e)) = W9 at hg9 ha9 hr9 hb9 ⊢
          obtain ⟨k0, k1, k2, k3, k4, k5, k6, k7, kz⟩ := hg9.cells
          obtain ⟨r0, r1, r2, r3, r4, r5, r6, r7, rz⟩ := hr9.cells
          have HA9 := Lib.hid ha9
          have HB9 := Lib.hid hb9
          have HR9 := Lib.hid hr9
          clear hg9 ha9 hb9 hr9 HEND
          go_wp2_with fail
          have hne1 : ∀ ad, A = some ad → ad.block ≠ w.heap.size + 1 := fun ad ha => by have := HF.out ad ha; omega
          have h8 := set8_grown W9 (w.heap.size + 1) (plainM m) A c
          have ha8 := HA9.out.grown h8 hne1
          have hb8 := grown_low HB9.out h8 (by omega)
          unfold set8 at ha8 hb8
          refine bodyPost_ret (v := .agg #[.int .i64 (plainM m).op, .int .i64 (plainM m).d, .int .i64 (plainM m).e, .int .i64 (plainM m).a, .int .i64 (plainM m).b, .int .i64 (plainM m).c, .int .i32 (plainM m).imm, .slice A (plainM m).args.length c]) (by simp [results, Tryd.results27, go_sem, r0, r1, r2, r3, r4, r5, r6, r7]) rfl ?_
          exact ⟨A, c, rfl, hb8, ha8, fun ad ha => by have := HF.out ad ha; omega⟩
        · have hpl : plainM m = g := by rw [← HEND.out, if_neg hB, if_neg hA]
          have HPL := Lib.hid hpl
          clear hA hB hpl
          go_upto_region 27 with (fail)
          have hg9 : MachAt w2 (w.heap.size + 1 + 1) (plainM m) A c := by rw [HPL.out]; exact HG2.out
          have ha9 : ArgsIn w2 (plainM m) A c := by rw [HPL.out]; exact (HA2.out).same rfl
          have hr9 : MachAt w2 (w.heap.size + 1) zeroM none 0 := HR2.out
          have hb9 : Below w.heap.size w w2 := HB2.out
          clear HPL HG2 HA2 HR2 HB2 HI2 i0 i1 i2 i3 i4 i5 i6 i7 iz g0 g1 g2 g3 g4 g5 g6 g7 gz
          generalize w2 = W9 at hg9 ha9 hr9 hb9 ⊢
          obtain ⟨k0, k1, k2, k3, k4, k5, k6, k7, kz⟩ := hg9.cells
          obtain ⟨r0, r1, r2, r3, r4, r5, r6, r7, rz⟩ := hr9.cells
          have HA9 := Lib.hid ha9
          have HB9 := Lib.hid hb9
          have HR9 := Lib.hid hr9
          clear hg9 ha9 hb9 hr9 HEND
          go_wp2_with fail
          have hne1 : ∀ ad, A = some ad → ad.block ≠ w.heap.size + 1 := fun ad ha => by have := HF.out ad ha; omega
          have h8 := set8_grown W9 (w.heap.size + 1) (plainM m) A c
          have ha8 := HA9.out.grown h8 hne1
          have hb8 := grown_low HB9.out h8 (by omega)
          unfold set8 at ha8 hb8
          refine bodyPost_ret (v := .agg #[.int .i64 (plainM m).op, .int .i64 (plainM m).d, .int .i64 (plainM m).e, .int .i64 (plainM m).a, .int .i64 (plainM m).b, .int .i64 (plainM m).c, .int .i32 (plainM m).imm, .slice A (plainM m).args.length c]) (by simp [results, Tryd.results27, go_sem, r0, r1, r2, r3, r4, r5, r6, r7]) rfl ?_
          exact ⟨A, c, rfl, hb8, ha8, fun ad ha => by have := HF.out ad ha; omega⟩
      · skip
        rcases hcB with ⟨q3, hB⟩ | ⟨q3, q4, hB⟩ | ⟨q3, q4, hB⟩
        · have hpl : plainM m = { ({ g with imm := m.imm } : M) with e := m.e } := by rw [← HEND.out, if_pos hB, if_pos hA]
          have HPL := Lib.hid hpl
          clear hA hB hpl
          go_upto_region 27 with (fail)
          have hg9 : MachAt ((w2.setCell ⟨w.heap.size + 1 + 1, 6, none⟩ (.int .i32 m.imm)).setCell ⟨w.heap.size + 1 + 1, 2, none⟩ (.int .i64 m.e)) (w.heap.size + 1 + 1) (plainM m) A c := by rw [HPL.out]; exact (set_cells (set_cells HG2.out 6 (.int .i32 m.imm)) 2 (.int .i64 m.e))
          have ha9 : ArgsIn ((w2.setCell ⟨w.heap.size + 1 + 1, 6, none⟩ (.int .i32 m.imm)).setCell ⟨w.heap.size + 1 + 1, 2, none⟩ (.int .i64 m.e)) (plainM m) A c := by rw [HPL.out]; exact (((HA2.out.set HNE.out 6 (.int .i32 m.imm)).set HNE.out 2 (.int .i64 m.e))).same rfl
          have hr9 : MachAt ((w2.setCell ⟨w.heap.size + 1 + 1, 6, none⟩ (.int .i32 m.imm)).setCell ⟨w.heap.size + 1 + 1, 2, none⟩ (.int .i64 m.e)) (w.heap.size + 1) zeroM none 0 := (set_other (set_other HR2.out (by omega) 6 (.int .i32 m.imm)) (by omega) 2 (.int .i64 m.e))
          have hb9 : Below w.heap.size w ((w2.setCell ⟨w.heap.size + 1 + 1, 6, none⟩ (.int .i32 m.imm)).setCell ⟨w.heap.size + 1 + 1, 2, none⟩ (.int .i64 m.e)) := (below_set (below_set HB2.out (by omega) 6 (.int .i32 m.imm)) (by omega) 2 (.int .i64 m.e))
          clear HPL HG2 HA2 HR2 HB2 HI2 i0 i1 i2 i3 i4 i5 i6 i7 iz g0 g1 g2 g3 g4 g5 g6 g7 gz
          generalize ((w2.setCell ⟨w.heap.size + 1 + 1, 6, none⟩ (.int .i32 m.imm)).setCell ⟨w.heap.size + 1 + 1, 2, none⟩ (.int .i64 m.e)) = W9 at hg9 ha9 hr9 hb9 ⊢
          obtain ⟨k0, k1, k2, k3, k4, k5, k6, k7, kz⟩ := hg9.cells
          obtain ⟨r0, r1, r2, r3, r4, r5, r6, r7, rz⟩ := hr9.cells
          have HA9 := Lib.hid ha9
          have HB9 := Lib.hid hb9
          have HR9 := Lib.hid hr9
          clear hg9 ha9 hb9 hr9 HEND
          go_wp2_with fail
          have hne1 : ∀ ad, A = some ad → ad.block ≠ w.heap.size + 1 := fun ad ha => by have := HF.out ad ha; omega
          have h8 := set8_grown W9 (w.heap.size + 1) (plainM m) A c
          have ha8 := HA9.out.grown h8 hne1
          have hb8 := grown_low HB9.out h8 (by omega)
          unfold set8 at ha8 hb8
          refine bodyPost_ret (v := .agg #[.int .i64 (plainM m).op, .int .i64 (plainM m).d, .int .i64 (plainM m).e, .int .i64 (plainM m).a, .int .i64 (plainM m).b, .int .i64 (plainM m).c, .int .i32 (plainM m).imm, .slice A (plainM m).args.length c]) (by simp [results, Tryd.results27, go_sem, r0, r1, r2, r3, r4, r5, r6, r7]) rfl ?_
          exact ⟨A, c, rfl, hb8, ha8, fun ad ha => by have := HF.out ad ha; omega⟩
        · have hpl : plainM m = { ({ g with imm := m.imm } : M) with e := m.e } := by rw [← HEND.out, if_pos hB, if_pos hA]
          have HPL := Lib.hid hpl
          clear hA hB hpl
          go_upto_region 27 with (fail)
          have hg9 : MachAt ((w2.setCell ⟨w.heap.size + 1 + 1, 6, none⟩ (.int .i32 m.imm)).setCell ⟨w.heap.size + 1 + 1, 2, none⟩ (.int .i64 m.e)) (w.heap.size + 1 + 1) (plainM m) A c := by rw [HPL.out]; exact (set_cells (set_cells HG2.out 6 (.int .i32 m.imm)) 2 (.int .i64 m.e))
          have ha9 : ArgsIn ((w2.setCell ⟨w.heap.size + 1 + 1, 6, none⟩ (.int .i32 m.imm)).setCell ⟨w.heap.size + 1 + 1, 2, none⟩ (.int .i64 m.e)) (plainM m) A c := by rw [HPL.out]; exact (((HA2.out.set HNE.out 6 (.int .i32 m.imm)).set HNE.out 2 (.int .i64 m.e))).same rfl
          have hr9 : MachAt ((w2.setCell ⟨w.heap.size + 1 + 1, 6, none⟩ (.int .i32 m.imm)).setCell ⟨w.heap.size + 1 + 1, 2, none⟩ (.int .i64 m.e)) (w.heap.size + 1) zeroM none 0 := (set_other (set_other HR2.out (by omega) 6 (.int .i32 m.imm)) (by omega) 2 (.int .i64 m.e))
          have hb9 : Below w.heap.size w ((w2.setCell ⟨w.heap.size + 1 + 1, 6, none⟩ (.int .i32 m.imm)).setCell ⟨w.heap.size + 1 + 1, 2, none⟩ (.int .i64 m.e)) := (below_set (below_set HB2.out (by omega) 6 (.int .i32 m.imm)) (by omega) 2 (.int .i64 m.e))
          clear HPL HG2 HA2 HR2 HB2 HI2 i0 i1 i2 i3 i4 i5 i6 i7 iz g0 g1 g2 g3 g4 g5 g6 g7 gz
          generalize ((w2.setCell ⟨w.heap.size + 1 + 1, 6, none⟩ (.int .i32 m.imm)).setCell ⟨w.heap.size + 1 + 1, 2, none⟩ (.int .i64 m.e)) = W9 at hg9 ha9 hr9 hb9 ⊢
          obtain ⟨k0, k1, k2, k3, k4, k5, k6, k7, kz⟩ := hg9.cells
          obtain ⟨r0, r1, r2, r3, r4, r5, r6, r7, rz⟩ := hr9.cells
          have HA9 := Lib.hid ha9
          have HB9 := Lib.hid hb9
          have HR9 := Lib.hid hr9
          clear hg9 ha9 hb9 hr9 HEND
          go_wp2_with fail
          have hne1 : ∀ ad, A = some ad → ad.block ≠ w.heap.size + 1 := fun ad ha => by have := HF.out ad ha; omega
          have h8 := set8_grown W9 (w.heap.size + 1) (plainM m) A c
          have ha8 := HA9.out.grown h8 hne1
          have hb8 := grown_low HB9.out h8 (by omega)
          unfold set8 at ha8 hb8
          refine bodyPost_ret (v := .agg #[.int .i64 (plainM m).op, .int .i64 (plainM m).d, .int .i64 (plainM m).e, .int .i64 (plainM m).a, .int .i64 (plainM m).b, .int .i64 (plainM m).c, .int .i32 (plainM m).imm, .slice A (plainM m).args.length c]) (by simp [results, Tryd.results27, go_sem, r0, r1, r2, r3, r4, r5, r6, r7]) rfl ?_
          exact ⟨A, c, rfl, hb8, ha8, fun ad ha => by have := HF.out ad ha; omega⟩
        · have hpl : plainM m = { g with imm := m.imm } := by rw [← HEND.out, if_neg hB, if_pos hA]
          have HPL := Lib.hid hpl
          clear hA hB hpl
          go_upto_region 27 with (fail)
          have hg9 : MachAt (w2.setCell ⟨w.heap.size + 1 + 1, 6, none⟩ (.int .i32 m.imm)) (w.heap.size + 1 + 1) (plainM m) A c := by rw [HPL.out]; exact (set_cells HG2.out 6 (.int .i32 m.imm))
          have ha9 : ArgsIn (w2.setCell ⟨w.heap.size + 1 + 1, 6, none⟩ (.int .i32 m.imm)) (plainM m) A c := by rw [HPL.out]; exact ((HA2.out.set HNE.out 6 (.int .i32 m.imm))).same rfl
          have hr9 : MachAt (w2.setCell ⟨w.heap.size + 1 + 1, 6, none⟩ (.int .i32 m.imm)) (w.heap.size + 1) zeroM none 0 := (set_other HR2.out (by omega) 6 (.int .i32 m.imm))
          have hb9 : Below w.heap.size w (w2.setCell ⟨w.heap.size + 1 + 1, 6, none⟩ (.int .i32 m.imm)) := (below_set HB2.out (by omega) 6 (.int .i32 m.imm))
          clear HPL HG2 HA2 HR2 HB2 HI2 i0 i1 i2 i3 i4 i5 i6 i7 iz g0 g1 g2 g3 g4 g5 g6 g7 gz
          generalize (w2.setCell ⟨w.heap.size + 1 + 1, 6, none⟩ (.int .i32 m.imm)) = W9 at hg9 ha9 hr9 hb9 ⊢
          obtain ⟨k0, k1, k2, k3, k4, k5, k6, k7, kz⟩ := hg9.cells
          obtain ⟨r0, r1, r2, r3, r4, r5, r6, r7, rz⟩ := hr9.cells
          have HA9 := Lib.hid ha9
          have HB9 := Lib.hid hb9
          have HR9 := Lib.hid hr9
          clear hg9 ha9 hb9 hr9 HEND
          go_wp2_with fail
          have hne1 : ∀ ad, A = some ad → ad.block ≠ w.heap.size + 1 := fun ad ha => by have := HF.out ad ha; omega
          have h8 := set8_grown W9 (w.heap.size + 1) (plainM m) A c
          have ha8 := HA9.out.grown h8 hne1
          have hb8 := grown_low HB9.out h8 (by omega)
          unfold set8 at ha8 hb8
          refine bodyPost_ret (v := .agg #[.int .i64 (plainM m).op, .int .i64 (plainM m).d, .int .i64 (plainM m).e, .int .i64 (plainM m).a, .int .i64 (plainM m).b, .int .i64 (plainM m).c, .int .i32 (plainM m).imm, .slice A (plainM m).args.length c]) (by simp [results, Tryd.results27, go_sem, r0, r1, r2, r3, r4, r5, r6, r7]) rfl ?_
          exact ⟨A, c, rfl, hb8, ha8, fun ad ha => by have := HF.out ad ha; omega⟩
end Go.Proofs.YtmoplcchiadlpaaDoor.Jc
end
section
set_option linter.unusedVariables false
set_option linter.unusedSimpArgs false
namespace Go.Proofs.YtmoplcchiadlpaaDoor.Jc
open Go Go.RowKit Go.ChangeMaps Go.Proofs.YtmoplcchiadlpaaDoorW.PrintWords Go.Proofs.YtmoplcchiadlpaaDoorW.PrintLast Go.Proofs.YtmoplcchiadlpaaDoorW.PrintMore

theorem Ev.next {α : Type} {g : Nat → Option α} {r : α} (h : Ev (fun k => g (k + 1)) r) : Ev g r := Ev.step (fun _ => rfl) h
theorem fields_ev (op : Int) : Ev (fun k => S.jacquardref18_Fields.f k op) (bs (fieldsOf op)) := Ev.of (fun k => S.jacquardref18_Fields.mono op k) (fields_f op)
theorem rhas_loop (x : UInt8) (l : List UInt8) (hl : l.length < 1000) : ∀ (d i : Nat), i + d = l.length → Ev (fun k => S.jacquardref18_has.l0 k (x.toNat : Int) (bs l) (i : Int)) (decide (x ∈ l.drop i))
  | 0, i, hd => by
    have hs := bs_size l
    refine Ev.step (f := fun _ => some (decide (x ∈ l.drop i))) (fun k => ?_) (Ev.now _)
    simp only [S.jacquardref18_has.l0]
    rw [if_neg (by rw [hs]; omega), List.drop_of_length_le (by omega)]
    simp
  | d + 1, i, hd => by
    have hs := bs_size l
    have hi : i < l.length := by omega
    have ih := rhas_loop x l hl d (i + 1) (by omega)
    rw [List.drop_eq_getElem_cons hi]
    by_cases hx : l[i] = x
    · refine Ev.step (f := fun _ => some (decide (x ∈ l[i] :: l.drop (i + 1)))) (fun k => ?_) (Ev.now _)
      simp only [S.jacquardref18_has.l0]
      rw [if_pos (by rw [hs]; omega), if_pos (by omega), bt_bs l i hi, if_pos (by rw [hx])]
      congr 1
      symm
      rw [decide_eq_true_eq, hx]
      exact List.mem_cons_self
    · have hne : ¬ ((l[i].toNat : Int) = (x.toNat : Int)) := fun h => hx (UInt8.toNat_inj.1 (by omega))
      have hne2 : ¬ x = l[i] := fun h => hx h.symm
      refine Ev.step (f := fun k => S.jacquardref18_has.l0 k (x.toNat : Int) (bs l) ((i + 1 : Nat) : Int)) (fun k => ?_) ?_
      · simp only [S.jacquardref18_has.l0]
        rw [if_pos (by rw [hs]; omega), if_pos (by omega), bt_bs l i hi, if_neg hne, wrap_nat (by omega)]
      · have e : decide (x ∈ l[i] :: l.drop (i + 1)) = decide (x ∈ l.drop (i + 1)) := by
          rw [decide_eq_decide]
          exact ⟨fun h => (List.mem_cons.1 h).resolve_left hne2, fun h => List.mem_cons_of_mem _ h⟩
        rw [e]
        exact ih
theorem rhas_ev (op : Int) (x : UInt8) : Ev (fun k => S.jacquardref18_has.f k op (x.toNat : Int)) (decide (x ∈ fieldsOf op)) := by
  have hl := fields_short op
  unfold S.jacquardref18_has.f
  exact Ev.bind (fields_ev op) (rhas_loop x (fieldsOf op) (by omega) (fieldsOf op).length 0 (by omega))
theorem mem_b (op : Int) : decide ((98 : UInt8) ∈ fieldsOf op) = decide (numF op = 98) := by
  have := info_all (fun _ _ f _ => decide ((98 : UInt8) ∈ f) == decide ((splitF f).2 = 98)) (fun _ => by decide) (by decide +kernel) op
  exact eq_of_beq this
theorem num_t (op : Int) (h : known op = true) : decide (numF op = 116) = decide (op = 49) := by
  have := info_all (fun op _ f k => !k || (decide ((splitF f).2 = 116) == decide (op = 49))) (fun _ => by simp) (by decide +kernel) op
  rw [h] at this
  rw [decide_eq_decide]
  simpa [numF] using this
theorem known_fields (op : Int) : (fieldsOf op).isEmpty = !known op := by
  have := info_all (fun _ _ f k => f.isEmpty == !k) (fun _ => by decide) (by decide +kernel) op
  exact eq_of_beq this
theorem has_ev98 (op : Int) : Ev (fun k => S.jacquardref18_has.f k op 98) (decide (numF op = 98)) := by
  rw [← mem_b]
  exact rhas_ev op 98
theorem bs_tolist (l : List UInt8) : (bs l).toList = l := by simp [bs]

theorem shape_loop (m : M) (hs : m.args.length ≤ 1000000) : ∀ (d i : Nat), i + d = m.args.length →
    Ev (fun k => S.jacquardref18_Shape.l0 k (i : Int) m.op m.d m.e m.a m.b m.c m.imm m.args) (counts i (m.args.drop i) && decide (m.args.length ≤ 4) && m.d == 0)
  | 0, i, hd => by
    refine Ev.step (f := fun _ => some (decide (m.args.length ≤ 4) && m.d == 0)) (fun k => ?_) (by rw [List.drop_of_length_le (by omega)]; simpa [counts] using Ev.now (decide (m.args.length ≤ 4) && m.d == 0))
    simp only [S.jacquardref18_Shape.l0]
    rw [if_neg (by omega)]
    by_cases h4 : m.args.length ≤ 4
    · rw [if_pos (by omega)]
      simp [h4]
    · rw [if_neg (by omega)]
      simp [h4]
  | d + 1, i, hd => by
    have hi : i < m.args.length := by omega
    have ih := shape_loop m hs d (i + 1) (by omega)
    have e1 : Go.Proofs.YtmoplcchiadlpaaDoorW.PrintWords.rd m.args (i : Int) = m.args[i] := by unfold Go.Proofs.YtmoplcchiadlpaaDoorW.PrintWords.rd; simp [hi]
    rw [List.drop_eq_getElem_cons hi]
    by_cases hx : m.args[i] = (i : Int)
    · refine Ev.step (f := fun k => S.jacquardref18_Shape.l0 k ((i + 1 : Nat) : Int) m.op m.d m.e m.a m.b m.c m.imm m.args) (fun k => ?_) ?_
      · simp only [S.jacquardref18_Shape.l0]
        rw [if_pos (by omega), if_pos (by omega), e1, if_pos hx, wrap_nat (by omega)]
      · simp only [counts, hx, beq_self_eq_true, Bool.true_and]
        exact ih
    · refine Ev.step (f := fun _ => some false) (fun k => ?_) (by
        have e : (counts i (m.args[i] :: m.args.drop (i + 1)) && decide (m.args.length ≤ 4) && m.d == 0) = false := by simp [counts, hx]
        rw [e]
        exact Ev.now _)
      simp only [S.jacquardref18_Shape.l0]
      rw [if_pos (by omega), if_pos (by omega), e1, if_neg hx]
theorem ite_some {c : Prop} [Decidable c] {a b : Bool} : (if c then some a else some b) = some (if c then a else b) := by split <;> rfl
theorem shape_ev (m : M) (hs : m.args.length ≤ 1000000) : Ev (fun k => S.jacquardref18_Shape.f k m.op m.d m.e m.a m.b m.c m.imm m.args) (shapeOk m) := by
  unfold S.jacquardref18_Shape.f
  refine Ev.bind (fields_ev m.op) ?_
  have hk := known_fields m.op
  rw [bs_tolist]
  unfold shapeOk
  cases hkn : known m.op
  · rw [hkn] at hk
    have : fieldsOf m.op = [] := by simpa using hk
    simp only [this, if_true, Bool.false_and]
    exact Ev.now _
  rw [hkn] at hk
  have hne : ¬ fieldsOf m.op = [] := by simpa using hk
  simp only [if_neg hne, Bool.true_and]
  by_cases h28 : m.op = 28
  · simp only [if_pos h28]
    have h := shape_loop m hs m.args.length 0 (by omega)
    simpa [Bool.and_assoc] using h
  simp only [if_neg h28]
  by_cases h29 : m.op = 29
  · simp only [if_pos h29]
    by_cases hd : m.d = 0
    · simp only [if_pos hd]
      simpa [hd] using Ev.now (m.e == 1)
    · simp only [if_neg hd]
      have e : (m.d == 0) = false := by simpa using hd
      rw [e, Bool.false_and]
      exact Ev.now _
  simp only [if_neg h29]
  have ht := num_t m.op hkn
  by_cases h49 : m.op = 49
  · simp only [if_pos h49]
    have h116 : numF m.op = 116 := by simpa [h49] using ht
    simp only [if_neg (show ¬ (numF m.op = 98 ∨ m.op = 50) by rw [h116, h49]; decide), if_pos h116]
    by_cases h2 : 2 ≤ m.args.length
    · simp only [if_pos (show (m.args.length : Int) ≥ 2 by omega)]
      have e : (decide (2 ≤ m.args.length) && decide (m.args.length ≤ 65)) = decide ((m.args.length : Int) ≤ 65) := by
        rw [decide_eq_true h2, Bool.true_and, decide_eq_decide]
        omega
      rw [e]
      exact Ev.now _
    · simp only [if_neg (show ¬ (m.args.length : Int) ≥ 2 by omega)]
      rw [decide_eq_false h2]
      exact Ev.now _
  simp only [if_neg h49]
  have h116 : ¬ numF m.op = 116 := by simpa [h49] using ht
  refine Ev.bind (has_ev98 m.op) ?_
  rw [if_neg h116]
  have hor : (if m.e = 0 then some true else some (m.e == 1)) = some (m.e == 0 || m.e == 1) := by
    by_cases he : m.e = 0
    · simp [he]
    · simp [he]
  by_cases h98 : numF m.op = 98
  · simp only [h98, decide_true, if_true, true_or, hor]
    exact Ev.now _
  · by_cases h50 : m.op = 50
    · simp only [h98, decide_false, h50, if_true, or_true, hor]
      exact Ev.now _
    · simp only [h98, decide_false, h50, if_false, or_self]
      exact Ev.now _

theorem regs_filter (op : Int) : regsF op = (fieldsOf op).filter isReg := by
  have := info_all (fun _ _ f _ => (splitF f).1 == f.filter isReg) (fun _ => by decide) (by decide +kernel) op
  exact eq_of_beq this
theorem regs_loop (m : M) : ∀ (d i : Nat) (acc : List Int), i + d = (fieldsOf m.op).length → acc.length ≤ i →
    Ev (fun k => S.jacquardref18_Regs.l0 k acc (bs (fieldsOf m.op)) (i : Int) m.op m.d m.e m.a m.b m.c m.imm m.args) (acc ++ (((fieldsOf m.op).drop i).filter isReg).map (regVal m))
  | 0, i, acc, hd, ha => by
    have hs := bs_size (fieldsOf m.op)
    refine Ev.step (f := fun _ => some acc) (fun k => ?_) (by rw [List.drop_of_length_le (by omega)]; simpa using Ev.now acc)
    simp only [S.jacquardref18_Regs.l0]
    rw [if_neg (by rw [hs]; omega)]
  | d + 1, i, acc, hd, ha => by
    have hl := fields_short m.op
    have hs := bs_size (fieldsOf m.op)
    have hi : i < (fieldsOf m.op).length := by omega
    have hb : bt (bs (fieldsOf m.op)) (i : Int) = (((fieldsOf m.op)[i]'hi).toNat : Int) := bt_bs _ i hi
    rw [List.drop_eq_getElem_cons hi]
    obtain ⟨x, hx⟩ : ∃ x, (fieldsOf m.op)[i]'hi = x := ⟨_, rfl⟩
    rw [hx] at hb ⊢
    have step : ∀ v, isReg x = true → regVal m x = v → (∀ k, S.jacquardref18_Regs.l0 (k + 1) acc (bs (fieldsOf m.op)) (i : Int) m.op m.d m.e m.a m.b m.c m.imm m.args = S.jacquardref18_Regs.l0 k (acc ++ [v]) (bs (fieldsOf m.op)) ((i + 1 : Nat) : Int) m.op m.d m.e m.a m.b m.c m.imm m.args) →
        Ev (fun k => S.jacquardref18_Regs.l0 k acc (bs (fieldsOf m.op)) (i : Int) m.op m.d m.e m.a m.b m.c m.imm m.args) (acc ++ ((x :: (fieldsOf m.op).drop (i + 1)).filter isReg).map (regVal m)) := fun v h1 h2 h3 => by
      refine Ev.step h3 ?_
      have e : acc ++ ((x :: (fieldsOf m.op).drop (i + 1)).filter isReg).map (regVal m) = (acc ++ [v]) ++ (((fieldsOf m.op).drop (i + 1)).filter isReg).map (regVal m) := by
        rw [List.filter_cons_of_pos h1, List.map_cons, h2, List.append_assoc]
        rfl
      rw [e]
      exact regs_loop m d (i + 1) (acc ++ [v]) (by omega) (by simp; omega)
    have c1 : (i : Int) < ((bs (fieldsOf m.op)).size : Int) := by rw [hs]; omega
    have c2 : (0 : Int) ≤ (i : Int) := by omega
    have c3 : acc.length < 17592186044416 := by omega
    have c4 := wrap_nat (n := i) (by omega)
    by_cases h68 : x = 68
    · subst h68
      refine step m.d rfl rfl fun k => ?_
      simp only [S.jacquardref18_Regs.l0]
      rw [if_pos c1, if_pos c2, hb, if_pos (by decide), if_pos c3, c4]
    by_cases h65 : x = 65
    · subst h65
      refine step m.a rfl rfl fun k => ?_
      simp only [S.jacquardref18_Regs.l0]
      rw [if_pos c1, if_pos c2, hb, if_neg (by decide), if_pos (by decide), if_pos c3, c4]
    by_cases h66 : x = 66
    · subst h66
      refine step m.b rfl rfl fun k => ?_
      simp only [S.jacquardref18_Regs.l0]
      rw [if_pos c1, if_pos c2, hb, if_neg (by decide), if_neg (by decide), if_pos (by decide), if_pos c3, c4]
    by_cases h67 : x = 67
    · subst h67
      refine step m.c rfl rfl fun k => ?_
      simp only [S.jacquardref18_Regs.l0]
      rw [if_pos c1, if_pos c2, hb, if_neg (by decide), if_neg (by decide), if_neg (by decide), if_pos (by decide), if_pos c3, c4]
    have hn : ¬ isReg x = true := by simp [isReg, h68, h65, h66, h67]
    rw [List.filter_cons_of_neg hn]
    refine Ev.step (f := fun k => S.jacquardref18_Regs.l0 k acc (bs (fieldsOf m.op)) ((i + 1 : Nat) : Int) m.op m.d m.e m.a m.b m.c m.imm m.args) (fun k => ?_) (regs_loop m d (i + 1) acc (by omega) (by omega))
    have n68 : ¬ ((x.toNat : Int) = 68) := fun h => h68 ((u8_int x 68).mp h)
    have n65 : ¬ ((x.toNat : Int) = 65) := fun h => h65 ((u8_int x 65).mp h)
    have n66 : ¬ ((x.toNat : Int) = 66) := fun h => h66 ((u8_int x 66).mp h)
    have n67 : ¬ ((x.toNat : Int) = 67) := fun h => h67 ((u8_int x 67).mp h)
    simp only [S.jacquardref18_Regs.l0]
    rw [if_pos c1, if_pos c2, hb, if_neg n68, if_neg n65, if_neg n66, if_neg n67, c4]
theorem regs_ev (m : M) : Ev (fun k => S.jacquardref18_Regs.f k m.op m.d m.e m.a m.b m.c m.imm m.args) (valsM m) := by
  unfold S.jacquardref18_Regs.f valsM
  rw [regs_filter]
  refine Ev.bind (fields_ev m.op) ?_
  have h := regs_loop m (fieldsOf m.op).length 0 [] (by omega) (by simp)
  simpa using h

theorem and255 (n : Int) : bits .and .i64 n 255 = n % 256 := by
  have h15 : (BitVec.ofInt 64 255).toNat = 2 ^ 8 - 1 := by decide
  have key : (BitVec.ofInt 64 n &&& BitVec.ofInt 64 255).toNat = (n % ((2 ^ 64 : Nat) : Int)).toNat % 2 ^ 8 := by
    rw [BitVec.toNat_and, BitVec.toNat_ofInt, h15, Nat.and_two_pow_sub_one_eq_mod]
  show IntKind.i64.wrap ((BitVec.ofInt 64 n &&& BitVec.ofInt 64 255).toNat : Nat) = n % 256
  rw [key, IntKind.wrap_i64]
  omega
theorem str_byte (n : Int) (i : Nat) : strOfNums [bits .and .i64 (n / 256 ^ i) 255 % 256] = bs [byteAt n i] := by
  rw [and255, ← str_asInts]
  unfold asInts
  rw [List.map_cons, List.map_nil, byteAt_int]
  congr 2
  omega
theorem bytes_loop (n : Int) (k : Nat) (hk : k ≤ 8) : ∀ (d i : Nat), i + d = k → Ev (fun r => S.jacquardref18_Bytes.l0 r (n / 256 ^ i) (k : Int) (bs (numB n i)) (i : Int)) (bs (numB n k))
  | 0, i, hd => by
    refine Ev.step (f := fun _ => some (bs (numB n i))) (fun r => ?_) (by rw [show k = i by omega]; exact Ev.now _)
    simp only [S.jacquardref18_Bytes.l0]
    rw [if_neg (by omega)]
  | d + 1, i, hd => by
    refine Ev.step (f := fun r => S.jacquardref18_Bytes.l0 r (n / 256 ^ (i + 1)) (k : Int) (bs (numB n (i + 1))) ((i + 1 : Nat) : Int)) (fun r => ?_) (bytes_loop n k hk d (i + 1) (by omega))
    have e1 : n / 256 ^ i / 256 = n / 256 ^ (i + 1) := by
      rw [Int.ediv_ediv_of_nonneg (Int.pow_nonneg (by decide)), Int.pow_succ]
    have e2 : bs [byteAt n i] ++ bs (numB n i) = bs (numB n (i + 1)) := bs_append _ _
    have hs1 := bs_size [byteAt n i]
    have hs2 := bs_size (numB n i)
    have hs3 := numB_length n i
    simp only [S.jacquardref18_Bytes.l0]
    rw [if_pos (by omega)]
    simp only [Option.bind_some, str_byte]
    rw [if_pos (by rw [hs1, hs2, hs3]; simp; omega), e1, e2, wrap_nat (by omega)]
theorem bytes_ev (n : Int) (k : Nat) (hk : k ≤ 8) : Ev (fun r => S.jacquardref18_Bytes.f r n (k : Int)) (bs (numB n k)) := by
  have h := bytes_loop n k hk k 0 (by omega)
  simpa [S.jacquardref18_Bytes.f, numB] using h

/-! The last letter, the number's letter: how they go together. -/
def lastOf (f : List UInt8) : UInt8 := f.getLastD 0
def kinds (op : Int) (f : List UInt8) : Bool :=
  let x := lastOf f; let y := (splitF f).2
  (y == 0 && x != 101 && x != 116 && (ofT x true).1 == 0 && (ofT x false).1 == 0 && op != 28) || (y == 110 && x == 119 && op == 28) || (y == 101 && x == 101 && op != 28) || (y == 116 && x == 116 && op != 28) ||
    (y == x && x != 0 && x != 110 && x != 101 && x != 116 && op != 28 && [true, false].all fun far => ofT x far == (((widthF x far).1 : Int), (widthF x far).2.1, (widthF x far).2.2) && (widthF x far).1 != 0)
theorem kinds_any (op : Int) (h : known op = true) : kinds op (fieldsOf op) = true := by
  have := info_all (fun op _ f k => !k || kinds op f) (fun _ => by simp) (by decide +kernel) op
  rw [h] at this
  simpa using this
/-- What the last letter and the number's letter of an Op may be. -/
theorem kinds_of (op : Int) (h : known op = true) (far : Bool) :
    (numF op = 0 ∧ lastF op ≠ 101 ∧ lastF op ≠ 116 ∧ (ofT (lastF op) far).1 = 0 ∧ op ≠ 28) ∨ (numF op = 110 ∧ lastF op = 119 ∧ op = 28) ∨ (numF op = 101 ∧ lastF op = 101 ∧ op ≠ 28) ∨ (numF op = 116 ∧ lastF op = 116 ∧ op ≠ 28) ∨
    (numF op = lastF op ∧ numF op ≠ 0 ∧ numF op ≠ 110 ∧ numF op ≠ 101 ∧ numF op ≠ 116 ∧ op ≠ 28 ∧ ofT (numF op) far = (((widthF (numF op) far).1 : Int), (widthF (numF op) far).2.1, (widthF (numF op) far).2.2) ∧ (widthF (numF op) far).1 ≠ 0) := by
  have hk := kinds_any op h
  unfold kinds at hk
  change (let x := lastF op; let y := numF op; _) = true at hk
  simp only [Bool.or_eq_true, Bool.and_eq_true, beq_iff_eq, bne_iff_ne, List.all_cons, List.all_nil, Bool.and_true] at hk
  rcases hk with (((⟨⟨⟨⟨⟨h1, h2⟩, h3⟩, h4⟩, h5⟩, h6⟩ | ⟨⟨h1, h2⟩, h3⟩) | ⟨⟨h1, h2⟩, h3⟩) | ⟨⟨h1, h2⟩, h3⟩) | ⟨⟨⟨⟨⟨⟨h1, h2⟩, h3⟩, h4⟩, h5⟩, h6⟩, ⟨h7, h8⟩, h9, h10⟩
  · exact .inl ⟨h1, h2, h3, by cases far <;> assumption, h6⟩
  · exact .inr (.inl ⟨h1, h2, h3⟩)
  · exact .inr (.inr (.inl ⟨h1, h2, h3⟩))
  · exact .inr (.inr (.inr (.inl ⟨h1, h2, h3⟩)))
  · have h1 : numF op = lastF op := h1
    refine .inr (.inr (.inr (.inr ⟨h1, by rw [h1]; exact h2, by rw [h1]; exact h3, by rw [h1]; exact h4, by rw [h1]; exact h5, h6, ?_, ?_⟩)))
    · rw [h1]; cases far <;> assumption
    · rw [h1]; cases far <;> assumption
theorem last_at (op : Int) (h : known op = true) : wrap64 (((bs (fieldsOf op)).size : Int) - 1) = (((fieldsOf op).length - 1 : Nat) : Int) ∧ 0 < (fieldsOf op).length ∧ bt (bs (fieldsOf op)) (wrap64 (((bs (fieldsOf op)).size : Int) - 1)) = ((lastF op).toNat : Int) := by
  have hl := fields_short op
  have hk := known_fields op
  rw [h] at hk
  have hne : fieldsOf op ≠ [] := by simpa using hk
  have h0 : 0 < (fieldsOf op).length := List.length_pos_iff.2 hne
  have hs := bs_size (fieldsOf op)
  have hw : wrap64 (((bs (fieldsOf op)).size : Int) - 1) = (((fieldsOf op).length - 1 : Nat) : Int) := by
    rw [hs]
    unfold wrap64
    omega
  refine ⟨hw, h0, ?_⟩
  rw [hw, bt_bs _ _ (by omega)]
  congr 2
  unfold lastF
  rw [List.getLastD_eq_getLast?, List.getLast?_eq_getElem?, List.getElem?_eq_getElem (by omega)]
  rfl
theorem w64 {n : Int} (h1 : -9223372036854775808 ≤ n) (h2 : n ≤ 9223372036854775807) : wrap64 n = n := by
  unfold wrap64
  omega
theorem shape_known {m : M} (h : shapeOk m = true) : known m.op = true := by
  unfold shapeOk at h
  simp only [Bool.and_eq_true] at h
  exact h.1
theorem far_pick {α : Type} (m : M) (g : Bool → α) : (if decide (numF m.op = 98) = true then g (m.e == 1) else g false) = g (farOf m) := by
  unfold farOf
  cases decide (numF m.op = 98)
  · rfl
  · simp
theorem ofT_le (x : UInt8) (far : Bool) : 0 ≤ (ofT x far).1 ∧ (ofT x far).1 ≤ 4 := by
  unfold ofT
  repeat' split
  all_goals exact ⟨by decide, by decide⟩
theorem u8_lit101 (x : UInt8) : ((x.toNat : Int) = 101) = (x = 101) := u8_int x 101
theorem u8_lit116 (x : UInt8) : ((x.toNat : Int) = 116) = (x = 116) := u8_int x 116
theorem u8_lit98 (x : UInt8) : ((x.toNat : Int) = 98) = (x = 98) := u8_int x 98
theorem size_words (r : Nat) (o : Int) (hr : r ≤ 4) (ho : 0 ≤ o ∧ o ≤ 4) (q : Nat) (hq : (r + 1) / 2 = q) : wrap64 ((r : Int) + 1) = (r : Int) + 1 ∧ wrap64 (Int.tdiv ((r : Int) + 1) 2) = (q : Int) ∧ wrap64 (1 + (q : Int)) = 1 + q ∧ wrap64 (1 + (q : Int) + o) = 1 + q + o ∧ q ≤ 4 := by
  have a0 : Int.tdiv ((r : Int) + 1) 2 = (q : Int) := by
    rw [Int.tdiv_eq_ediv_of_nonneg (by omega)]
    omega
  refine ⟨w64 (by omega) (by omega), ?_, w64 (by omega) (by omega), w64 (by omega) (by omega), by omega⟩
  rw [a0]
  exact w64 (n := (q : Int)) (by omega) (by omega)
theorem size_words2 (q : Nat) (l : Nat) (hq : q ≤ 4) (hl : l ≤ 1000000) : wrap64 (1 + (q : Int) + 4 + 1) = 1 + q + 5 ∧ wrap64 (1 + (q : Int) + 0 + 1) = 1 + q + 1 ∧ wrap64 (1 + (q : Int) + 3 + 1) = 1 + q + 3 + 1 ∧ wrap64 (3 * (l : Int)) = 3 * (l : Int) ∧
    wrap64 (1 + (q : Int) + 3 + 1 + 3 * (l : Int)) = 1 + q + 3 + 1 + 3 * (l : Int) ∧ wrap64 (1 + (q : Int) + 3 + 1 + 3 * (l : Int) - 3) = 1 + q + (1 + 3 * (l : Int)) :=
  ⟨(w64 (by omega) (by omega)).trans (by omega), (w64 (by omega) (by omega)).trans (by omega), w64 (by omega) (by omega), w64 (by omega) (by omega), w64 (by omega) (by omega), (w64 (by omega) (by omega)).trans (by omega)⟩
theorem size_ev (m : M) (hs : m.args.length ≤ 1000000) : Ev (fun k => S.jacquardref18_Size.f k m.op m.d m.e m.a m.b m.c m.imm m.args) (sizeM m) := by
  unfold S.jacquardref18_Size.f
  refine Ev.bind (shape_ev m hs) ?_
  cases hsh : shapeOk m
  · have : sizeM m = 0 := by unfold sizeM; rw [if_pos hsh]
    rw [this]
    exact Ev.now _
  simp only [if_true]
  refine Ev.bind (fields_ev m.op) ?_
  refine Ev.bind (has_ev98 m.op) ?_
  have hkn := shape_known hsh
  refine Ev.congr (fun n => far_pick m fun far => S.jacquardref18_Size.j0 n (bs (fieldsOf m.op)) far m.op m.d m.e m.a m.b m.c m.imm m.args) ?_
  obtain ⟨hw, h0, hb⟩ := last_at m.op hkn
  have hk := kinds_of m.op hkn (farOf m)
  have hrl : (valsM m).length = (regsF m.op).length := valsM_length m
  have hr4 := regs_short m.op
  have ho := ofT_le (lastF m.op) (farOf m)
  have hss := bs_size (fieldsOf m.op)
  refine Ev.next ?_
  simp only [S.jacquardref18_Size.j0]
  simp only [hb, if_pos (show (0 : Int) ≤ wrap64 (((bs (fieldsOf m.op)).size : Int) - 1) by rw [hw]; omega), if_pos (show wrap64 (((bs (fieldsOf m.op)).size : Int) - 1) < ((bs (fieldsOf m.op)).size : Int) by rw [hw, hss]; omega), of_f]
  simp only [Option.bind_some]
  refine Ev.bind (regs_ev m) ?_
  obtain ⟨q, hq⟩ : ∃ q, ((regsF m.op).length + 1) / 2 = q := ⟨_, rfl⟩
  obtain ⟨a1, a2, a3, a4, hq4⟩ := size_words (regsF m.op).length (ofT (lastF m.op) (farOf m)).1 hr4 ho q hq
  rw [← hrl] at a1 a2
  simp only [a1, a2, a3, a4]
  have hsz : sizeM m = 1 + (q : Int) + (if numF m.op = 0 then 0 else if numF m.op = 110 then 5 else if numF m.op = 116 then 1 + 3 * (m.args.length : Int) else ((widthF (numF m.op) (farOf m)).1 : Int)) := by
    unfold sizeM
    rw [if_neg (by rw [hsh]; decide), hq]
  rw [hsz]
  simp only [u8_lit101, u8_lit116]
  obtain ⟨b1, b2, b3, b4, b5, b6⟩ := size_words2 q m.args.length hq4 hs
  have d1 : ¬ (119 : UInt8) = 101 := by decide
  have d2 : ¬ (119 : UInt8) = 116 := by decide
  have d3 : ¬ (110 : UInt8) = 0 := by decide
  have d4 : ¬ (101 : UInt8) = 0 := by decide
  have d5 : ¬ (101 : UInt8) = 110 := by decide
  have d6 : ¬ (101 : UInt8) = 116 := by decide
  have d7 : ¬ (116 : UInt8) = 101 := by decide
  have d8 : ¬ (116 : UInt8) = 0 := by decide
  have d9 : ¬ (116 : UInt8) = 110 := by decide
  have t1 : (ofT 119 (farOf m)).1 = 4 := rfl
  have t2 : (ofT 101 (farOf m)).1 = 0 := rfl
  have t3 : (ofT 116 (farOf m)).1 = 3 := rfl
  have t4 : (((widthF 101 (farOf m)).1 : Nat) : Int) = 1 := rfl
  rcases hk with ⟨h1, h2, h3, h4, h5⟩ | ⟨h1, h2, h3⟩ | ⟨h1, h2, h3⟩ | ⟨h1, h2, h3⟩ | ⟨h1, h2, h3, h4, h5, h6, h7, h8⟩
  · simp only [if_neg h2, if_neg h3, if_neg h5, h4, if_pos h1]
    exact Ev.now _
  · rw [h1, h2]
    simp only [if_pos h3, t1, b1, if_neg d1, if_neg d2, if_neg d3, if_true]
    exact Ev.now _
  · rw [h1, h2]
    simp only [if_neg h3, t2, b2, if_true, if_neg d4, if_neg d5, if_neg d6, t4]
    exact Ev.now _
  · rw [h1, h2]
    simp only [if_neg h3, t3, b3, b4, b5, b6, if_neg d7, if_neg d8, if_neg d9, if_true]
    exact Ev.now _
  · rw [← h1]
    simp only [if_neg h2, if_neg h3, if_neg h4, if_neg h5, if_neg h6, h7]
    exact Ev.now _
end Go.Proofs.YtmoplcchiadlpaaDoor.Jc
end
section
set_option linter.unusedVariables false
set_option linter.unusedSimpArgs false
namespace Go.Proofs.YtmoplcchiadlpaaDoor.Jc
open Go Go.RowKit Go.ChangeMaps Go.Proofs.YtmoplcchiadlpaaDoorW.PrintWords Go.Proofs.YtmoplcchiadlpaaDoorW.PrintLast Go.Proofs.YtmoplcchiadlpaaDoorW.PrintMore

theorem table_loop (m : M) (hs : m.args.length ≤ 1000) : ∀ (d i : Nat) (acc : List UInt8), i + d = m.args.length → acc.length ≤ 2000 + 4 * i →
    Ev (fun k => S.jacquardref18_Put.l2 k (bs acc) (i : Int) m.op m.d m.e m.a m.b m.c m.imm m.args 3 (-8388608) 8388607) (match tableB (m.args.drop i) with | .ok t => (bs (acc ++ t), 0) | .error _ => (⟨#[]⟩, 61))
  | 0, i, acc, hd, ha => by
    rw [List.drop_of_length_le (by omega)]
    refine Ev.step (f := fun _ => some (bs acc, 0)) (fun k => ?_) (by simpa [tableB] using Ev.now (bs acc, (0 : Int)))
    simp only [S.jacquardref18_Put.l2]
    rw [if_neg (by omega)]
  | d + 1, i, acc, hd, ha => by
    have hi : i < m.args.length := by omega
    have e1 : Go.Proofs.YtmoplcchiadlpaaDoorW.PrintWords.rd m.args (i : Int) = m.args[i] := by unfold Go.Proofs.YtmoplcchiadlpaaDoorW.PrintWords.rd; simp [hi]
    rw [List.drop_eq_getElem_cons hi]
    generalize m.args[i] = x at e1
    by_cases hlo : x < -8388608
    · have hf : fitsB x 116 false 61 = .error 61 := if_neg (by intro h; exact absurd h.1 (by show ¬ (-8388608 : Int) ≤ x; omega))
      refine Ev.step (f := fun _ => some ((⟨#[]⟩ : ByteArray), 61)) (fun k => ?_) (by simpa [tableB, hf] using Ev.now ((⟨#[]⟩ : ByteArray), (61 : Int)))
      simp only [S.jacquardref18_Put.l2]
      rw [if_pos (by omega), if_pos (by omega), e1, if_pos hlo]
    by_cases hhi : x > 8388607
    · have hf : fitsB x 116 false 61 = .error 61 := if_neg (by intro h; exact absurd h.2 (by show ¬ x ≤ (8388607 : Int); omega))
      refine Ev.step (f := fun _ => some ((⟨#[]⟩ : ByteArray), 61)) (fun k => ?_) (by simpa [tableB, hf] using Ev.now ((⟨#[]⟩ : ByteArray), (61 : Int)))
      simp only [S.jacquardref18_Put.l2]
      rw [if_pos (by omega), if_pos (by omega), e1, if_neg hlo, if_pos hhi]
    · have hf : fitsB x 116 false 61 = .ok (numB x 3) := if_pos ⟨by show (-8388608 : Int) ≤ x; omega, by show x ≤ (8388607 : Int); omega⟩
      have ih := table_loop m hs d (i + 1) (acc ++ numB x 3) (by omega) (by rw [List.length_append, numB_length]; omega)
      have hsz : (bs acc).size + (bs (numB x 3)).size ≤ 9223372036854775807 := by rw [bs_size, bs_size, numB_length]; omega
      have hap : bs acc ++ bs (numB x 3) = bs (acc ++ numB x 3) := bs_append _ _
      have hw := wrap_nat (n := i) (by omega)
      have hres : (match tableB (x :: m.args.drop (i + 1)) with | .ok t => (bs (acc ++ t), (0 : Int)) | .error _ => (⟨#[]⟩, 61)) = (match tableB (m.args.drop (i + 1)) with | .ok t => (bs (acc ++ numB x 3 ++ t), 0) | .error _ => (⟨#[]⟩, 61)) := by
        simp only [tableB, hf]
        cases tableB (m.args.drop (i + 1)) <;> simp
      rw [hres]
      refine Ev.next ?_
      simp only [S.jacquardref18_Put.l2]
      simp only [if_pos (show (i : Int) < (m.args.length : Int) by omega), if_pos (show (0 : Int) ≤ (i : Int) by omega), e1, if_neg hlo, if_neg hhi]
      refine Ev.bind (bytes_ev x 3 (by omega)) ?_
      simp only [if_pos hsz, hap, hw]
      exact ih

/-- What Put tells of a result. -/
def told (r : Except Int (List UInt8)) : ByteArray × Int := match r with | .ok s => (bs s, 0) | .error e => (⟨#[]⟩, e)
theorem told_put (m : M) : told (put m) = (bs (putS m), putE m) := by
  unfold told putS putE
  cases put m <;> rfl

/-- Behind the registers: the number. -/
theorem tail_ev (m : M) (hin : InR m) (hsh : shapeOk m = true) (s : List UInt8) (hsl : s.length ≤ 1000) (vals : List Int) (i : Nat) (hi : vals.length ≤ i) (hib : i ≤ 1000) :
    Ev (fun k => S.jacquardref18_Put.l1 k (farOf m) (bs s) vals (i : Int) m.op m.d m.e m.a m.b m.c m.imm m.args) (told (match numPart m with | .ok t => .ok (s ++ t) | .error e => .error e)) := by
  have hkn := shape_known hsh
  obtain ⟨hw, h0, hb⟩ := last_at m.op hkn
  have hk := kinds_of m.op hkn (farOf m)
  have hss := bs_size (fieldsOf m.op)
  have himm := hin.imm
  have hwi : wrap64 m.imm = m.imm := w64 (by omega) (by omega)
  have room : ∀ t : List UInt8, t.length ≤ 1000 → (bs s).size + (bs t).size ≤ 9223372036854775807 := fun t ht => by rw [bs_size, bs_size]; omega
  refine Ev.next ?_
  simp only [S.jacquardref18_Put.l1]
  simp only [if_neg (show ¬ (i : Int) < (vals.length : Int) by omega)]
  refine Ev.bind (fields_ev m.op) ?_
  rw [hb]
  simp only [if_pos (show (0 : Int) ≤ wrap64 (((bs (fieldsOf m.op)).size : Int) - 1) by rw [hw]; omega), if_pos (show wrap64 (((bs (fieldsOf m.op)).size : Int) - 1) < ((bs (fieldsOf m.op)).size : Int) by rw [hw, hss]; omega), of_f, Option.bind_some, u8_lit101, u8_lit116, hwi]
  have hj5 : ∀ (b : Bool) (k : Nat) (o lo hi : Int), S.jacquardref18_Put.j5 (k + 1) (bs s) ((lastF m.op).toNat : Int) b m.op m.d m.e m.a m.b m.c m.imm m.args o lo hi = if b = true then (if lastF m.op = 98 then some ((⟨#[]⟩ : ByteArray), 61) else some ((⟨#[]⟩ : ByteArray), 32)) else (if m.op = 28 then ((S.jacquardref18_Bytes.f k (m.args.length : Int) 1).bind fun t153 => (if (bs s).size + t153.size ≤ 9223372036854775807 then ((S.jacquardref18_Bytes.f k m.imm o).bind fun t154 => (if (bs s ++ t153).size + t154.size ≤ 9223372036854775807 then (some ((bs s ++ t153) ++ t154, 0)) else (none))) else (none))) else ((S.jacquardref18_Bytes.f k m.imm o).bind fun t155 => (if (bs s).size + t155.size ≤ 9223372036854775807 then (some (bs s ++ t155, 0)) else (none)))) := fun b k o lo hi => by
    simp only [S.jacquardref18_Put.j5, u8_lit98, hwi]
  rcases hk with ⟨h1, h2, h3, h4, h5⟩ | ⟨h1, h2, h3⟩ | ⟨h1, h2, h3⟩ | ⟨h1, h2, h3⟩ | ⟨h1, h2, h3, h4, h5, h6, h7, h8⟩
  · have hn : numPart m = .ok [] := if_pos h1
    simp only [if_neg h2, if_neg h3, h4, hn, List.append_nil, told, if_true]
    exact Ev.now _
  · have hn : numPart m = .ok (numB m.args.length 1 ++ numB m.imm 4) := by
      unfold numPart
      rw [h1, if_neg (by decide), if_pos rfl]
    have h119 : ofT 119 (farOf m) = (4, -2147483648, 2147483647) := rfl
    rw [hn]
    rw [h2] at hj5 ⊢
    simp only [h119, if_neg (show ¬ (119 : UInt8) = 101 by decide), if_neg (show ¬ (119 : UInt8) = 116 by decide), if_neg (show ¬ (4 : Int) = 0 by decide)]
    simp only [if_neg (show ¬ m.imm < -2147483648 by omega), decide_eq_false (show ¬ m.imm > 2147483647 by omega)]
    refine Ev.next (Ev.congr (fun k => hj5 false k _ _ _) ?_)
    simp only [Bool.false_eq_true, if_false, if_pos h3]
    have r1 := room (numB m.args.length 1) (by rw [numB_length]; omega)
    refine Ev.bind (bytes_ev m.args.length 1 (by omega)) ?_
    simp only [if_pos r1, bs_append]
    refine Ev.bind (bytes_ev m.imm 4 (by omega)) ?_
    simp only [if_pos (show (bs (s ++ numB m.args.length 1)).size + (bs (numB m.imm 4)).size ≤ 9223372036854775807 by rw [bs_size, bs_size, List.length_append, numB_length, numB_length]; omega), told, bs_append, List.append_assoc]
    exact Ev.now _
  · have hn : numPart m = .ok (numB m.e 1) := by
      unfold numPart
      rw [h1, if_neg (by decide), if_neg (by decide), if_pos rfl]
    rw [hn]
    simp only [if_pos h2]
    refine Ev.bind (bytes_ev m.e 1 (by omega)) ?_
    simp only [if_pos (room (numB m.e 1) (by rw [numB_length]; omega)), told, bs_append]
    exact Ev.now _
  · have hn : numPart m = (match tableB m.args with | .ok t => .ok (numB m.args.length 1 ++ t) | .error e => .error e) := by
      unfold numPart
      rw [h1, if_neg (by decide), if_neg (by decide), if_neg (by decide), if_pos rfl]
      rfl
    have hl := shape_116 m hsh h1
    rw [hn, h2]
    simp only [if_neg (show ¬ (116 : UInt8) = 101 by decide), if_true]
    refine Ev.bind (bytes_ev m.args.length 1 (by omega)) ?_
    simp only [if_pos (room (numB m.args.length 1) (by rw [numB_length]; omega)), bs_append]
    have h116 : ofT 116 (farOf m) = (3, -8388608, 8388607) := rfl
    rw [h116]
    have h := table_loop m (by omega) m.args.length 0 (s ++ numB m.args.length 1) (by omega) (by rw [List.length_append, numB_length]; omega)
    have e : told (match (match tableB m.args with | .ok t => .ok (numB m.args.length 1 ++ t) | .error e => .error e : Except Int (List UInt8)) with | .ok t => .ok (s ++ t) | .error e => .error e) = (match tableB (m.args.drop 0) with | .ok t => (bs (s ++ numB m.args.length 1 ++ t), 0) | .error _ => (⟨#[]⟩, 61)) := by
      rw [List.drop_zero]
      cases ht : tableB m.args with
      | ok t => simp [told]
      | error k =>
        rw [tableB_err _ _ ht]
        rfl
    rw [e]
    exact h
  · have hn : numPart m = fitsB m.imm (numF m.op) (farOf m) (if numF m.op = 98 then 61 else 32) := by
      unfold numPart
      rw [if_neg h2, if_neg h3, if_neg h4, if_neg h5]
      split
      · rename_i h; rw [h]
      · rfl
    rw [hn]
    rw [← h1] at hj5 ⊢
    simp only [if_neg h4, if_neg h5, h7]
    have hne0 : ¬ ((widthF (numF m.op) (farOf m)).1 : Int) = 0 := by omega
    simp only [if_neg hne0]
    have hw4 := width_le (numF m.op) (farOf m)
    by_cases hfit : (widthF (numF m.op) (farOf m)).2.1 ≤ m.imm ∧ m.imm ≤ (widthF (numF m.op) (farOf m)).2.2
    · rw [show fitsB m.imm (numF m.op) (farOf m) (if numF m.op = 98 then 61 else 32) = .ok (numB m.imm (widthF (numF m.op) (farOf m)).1) from if_pos hfit]
      simp only [if_neg (show ¬ m.imm < (widthF (numF m.op) (farOf m)).2.1 by omega), decide_eq_false (show ¬ m.imm > (widthF (numF m.op) (farOf m)).2.2 by omega)]
      refine Ev.next (Ev.congr (fun k => hj5 false k _ _ _) ?_)
      simp only [Bool.false_eq_true, if_false, if_neg h6]
      refine Ev.bind (bytes_ev m.imm (widthF (numF m.op) (farOf m)).1 (by omega)) ?_
      simp only [if_pos (room (numB m.imm (widthF (numF m.op) (farOf m)).1) (by rw [numB_length]; omega)), told, bs_append]
      exact Ev.now _
    · rw [show fitsB m.imm (numF m.op) (farOf m) (if numF m.op = 98 then 61 else 32) = .error (if numF m.op = 98 then 61 else 32) from if_neg hfit]
      have hfin : Ev (fun k => S.jacquardref18_Put.j5 k (bs s) ((numF m.op).toNat : Int) true m.op m.d m.e m.a m.b m.c m.imm m.args ((widthF (numF m.op) (farOf m)).1 : Int) (widthF (numF m.op) (farOf m)).2.1 (widthF (numF m.op) (farOf m)).2.2) (told (.error (if numF m.op = 98 then 61 else 32))) := by
        refine Ev.next (Ev.congr (fun k => hj5 true k _ _ _) ?_)
        simp only [if_true, told]
        by_cases h98 : numF m.op = 98
        · simp only [if_pos h98]; exact Ev.now _
        · simp only [if_neg h98]; exact Ev.now _
      by_cases hlo : m.imm < (widthF (numF m.op) (farOf m)).2.1
      · simp only [if_pos hlo]
        exact hfin
      · simp only [if_neg hlo, decide_eq_true (show m.imm > (widthF (numF m.op) (farOf m)).2.2 by omega)]
        exact hfin

theorem rd_at (l : List Int) (i : Nat) (h : i < l.length) : Go.Proofs.YtmoplcchiadlpaaDoorW.PrintWords.rd l (i : Int) = l.getD i 0 := by
  unfold Go.Proofs.YtmoplcchiadlpaaDoorW.PrintWords.rd
  simp [h, List.getD_eq_getElem?_getD]
theorem pair_ev (m : M) (hin : InR m) (hsh : shapeOk m = true) (hok : (valsM m).all regOk = true) : ∀ (d i : Nat), (valsM m).length ≤ i + d → i ≤ 100 → i % 2 = 0 →
    Ev (fun k => S.jacquardref18_Put.l1 k (farOf m) (bs (headB m :: pairs ((valsM m).take i))) (valsM m) (i : Int) m.op m.d m.e m.a m.b m.c m.imm m.args) (told (match numPart m with | .ok t => .ok (headB m :: pairs (valsM m) ++ t) | .error e => .error e))
  | 0, i, hd, hb, he => by
    have hp := pairs_short m i
    have h := tail_ev m hin hsh (headB m :: pairs ((valsM m).take i)) (by simp; omega) (valsM m) i (by omega) (by omega)
    rw [List.take_of_length_le (by omega)] at h ⊢
    exact h
  | d + 1, i, hd, hb, he => by
    have hvl := valsM_length m
    have hr4 := regs_short m.op
    by_cases hge : (valsM m).length ≤ i
    · have hp := pairs_short m i
      have h := tail_ev m hin hsh (headB m :: pairs ((valsM m).take i)) (by simp; omega) (valsM m) i (by omega) (by omega)
      rw [List.take_of_length_le (by omega)] at h ⊢
      exact h
    have ih := pair_ev m hin hsh hok d (i + 2) (by omega) (by omega) (by omega)
    have hp := pairs_short m i
    have hall := List.all_eq_true.1 hok
    have hin2 : ∀ j, j < (valsM m).length → 0 ≤ (valsM m).getD j 0 ∧ (valsM m).getD j 0 < 16 := fun j hj => by
      have := hall ((valsM m).getD j 0) (by rw [List.getD_eq_getElem?_getD, List.getElem?_eq_getElem hj]; exact List.getElem_mem hj)
      exact (regOk_iff _).1 this
    have q1 := hin2 i (by omega)
    have w1 : wrap64 ((i : Int) + 1) = ((i + 1 : Nat) : Int) := wrap_nat (by omega)
    have w2 : wrap64 ((i : Int) + 2) = ((i + 2 : Nat) : Int) := by rw [w64 (by omega) (by omega)]; omega
    have w3 : wrap64 (16 * (valsM m).getD i 0) = 16 * (valsM m).getD i 0 := w64 (by omega) (by omega)
    have hroom : ∀ b : List UInt8, b.length ≤ 8 → (bs (headB m :: pairs ((valsM m).take i))).size + (bs b).size ≤ 9223372036854775807 := fun b hb => by
      rw [bs_size, bs_size, List.length_cons]; omega
    by_cases h1 : i + 1 < (valsM m).length
    · have q2 := hin2 (i + 1) h1
      have w4 : wrap64 (16 * (valsM m).getD i 0 + (valsM m).getD (i + 1) 0) = 16 * (valsM m).getD i 0 + (valsM m).getD (i + 1) 0 := w64 (by omega) (by omega)
      refine Ev.next ?_
      simp only [S.jacquardref18_Put.l1]
      simp only [if_pos (show (i : Int) < ((valsM m).length : Int) by omega), w1, if_pos (show ((i + 1 : Nat) : Int) < ((valsM m).length : Int) by omega), if_pos (show (0 : Int) ≤ ((i + 1 : Nat) : Int) by omega), if_pos (show (0 : Int) ≤ (i : Int) by omega), rd_at (valsM m) i (by omega), rd_at (valsM m) (i + 1) h1, w3, w4, w2]
      refine Ev.bind (bytes_ev _ 1 (by omega)) ?_
      simp only [if_pos (hroom (numB (16 * (valsM m).getD i 0 + (valsM m).getD (i + 1) 0) 1) (by rw [numB_length]; omega)), bs_append]
      have e : headB m :: pairs ((valsM m).take i) ++ numB (16 * (valsM m).getD i 0 + (valsM m).getD (i + 1) 0) 1 = headB m :: pairs ((valsM m).take (i + 2)) := by
        rw [pairs_two _ i h1 he]; rfl
      rw [e]
      exact ih
    · refine Ev.next ?_
      simp only [S.jacquardref18_Put.l1]
      simp only [if_pos (show (i : Int) < ((valsM m).length : Int) by omega), w1, if_neg (show ¬ ((i + 1 : Nat) : Int) < ((valsM m).length : Int) by omega), if_pos (show (0 : Int) ≤ (i : Int) by omega), rd_at (valsM m) i (by omega), w3, w3, w2]
      refine Ev.bind (bytes_ev _ 1 (by omega)) ?_
      simp only [if_pos (hroom (numB (16 * (valsM m).getD i 0) 1) (by rw [numB_length]; omega)), bs_append]
      have e : headB m :: pairs ((valsM m).take i) ++ numB (16 * (valsM m).getD i 0) 1 = headB m :: pairs ((valsM m).take (i + 2)) := by
        rw [pairs_last _ i (by omega) he, Int.add_zero]; rfl
      rw [e]
      exact ih
theorem check_ev (m : M) (hin : InR m) (hsh : shapeOk m = true) : ∀ (d i : Nat), i + d = (valsM m).length → ((valsM m).take i).all regOk = true →
    Ev (fun k => S.jacquardref18_Put.l0 k (farOf m) (bs [headB m]) (valsM m) (i : Int) m.op m.d m.e m.a m.b m.c m.imm m.args) (told (put m))
  | 0, i, hd, hok => by
    have hok2 : (valsM m).all regOk = true := by rw [List.take_of_length_le (by omega)] at hok; exact hok
    have hput : put m = match numPart m with | .ok s => .ok (headB m :: (pairs (valsM m) ++ s)) | .error e => .error e := by
      unfold put
      rw [if_neg (by rw [hsh]; decide), if_neg (show ¬ ((regsF m.op).map (regVal m)).all regOk = false by rw [show (regsF m.op).map (regVal m) = valsM m from rfl, hok2]; decide)]
      rfl
    have h := pair_ev m hin hsh hok2 (valsM m).length 0 (by omega) (by omega) rfl
    rw [hput]
    refine Ev.next ?_
    simp only [S.jacquardref18_Put.l0]
    simp only [if_neg (show ¬ (i : Int) < ((valsM m).length : Int) by omega)]
    simpa [pairs] using h
  | d + 1, i, hd, hok => by
    have hi : i < (valsM m).length := by omega
    have hr4 := regs_short m.op
    have hvl := valsM_length m
    have e1 := rd_at (valsM m) i hi
    have hsn := all_take_snoc (valsM m) i hi
    have hbad : regOk ((valsM m).getD i 0) = false → told (put m) = (⟨#[]⟩, 31) := fun h => by
      rw [put_reg m (i + 1) hsh (by rw [hsn, h, Bool.and_false])]
      rfl
    by_cases hlo : (valsM m).getD i 0 < 0
    · rw [hbad (by unfold regOk; rw [Bool.and_eq_false_iff]; exact .inl (decide_eq_false (by omega)))]
      refine Ev.step (f := fun _ => some ((⟨#[]⟩ : ByteArray), 31)) (fun k => ?_) (Ev.now _)
      simp only [S.jacquardref18_Put.l0]
      rw [if_pos (by omega), if_pos (by omega), e1, if_pos hlo]
    by_cases hhi : (valsM m).getD i 0 > 15
    · rw [hbad (by unfold regOk; rw [Bool.and_eq_false_iff]; exact .inr (decide_eq_false (by omega)))]
      refine Ev.step (f := fun _ => some ((⟨#[]⟩ : ByteArray), 31)) (fun k => ?_) (Ev.now _)
      simp only [S.jacquardref18_Put.l0]
      rw [if_pos (by omega), if_pos (by omega), e1, if_neg hlo, if_pos hhi]
    · have hr : regOk ((valsM m).getD i 0) = true := (regOk_iff _).2 ⟨by omega, by omega⟩
      refine Ev.step (f := fun k => S.jacquardref18_Put.l0 k (farOf m) (bs [headB m]) (valsM m) ((i + 1 : Nat) : Int) m.op m.d m.e m.a m.b m.c m.imm m.args) (fun k => ?_) (check_ev m hin hsh d (i + 1) (by omega) (by rw [hsn, hok, hr]; rfl))
      simp only [S.jacquardref18_Put.l0]
      rw [if_pos (by omega), if_pos (by omega), e1, if_neg hlo, if_neg hhi, wrap_nat (by omega)]
theorem put_ev (m : M) (hin : InR m) : Ev (fun k => S.jacquardref18_Put.f k m.op m.d m.e m.a m.b m.c m.imm m.args) (bs (putS m), putE m) := by
  rw [← told_put]
  unfold S.jacquardref18_Put.f
  refine Ev.bind (shape_ev m hin.few) ?_
  cases hsh : shapeOk m
  · have : put m = .error 30 := if_pos hsh
    rw [this]
    exact Ev.now _
  simp only [if_true]
  refine Ev.bind (has_ev98 m.op) ?_
  refine Ev.congr (fun n => far_pick m fun far => S.jacquardref18_Put.j0 n far m.op m.d m.e m.a m.b m.c m.imm m.args) ?_
  have hop := op_known m.op (shape_known hsh)
  have hw : wrap64 (m.op + 128) = m.op + 128 := w64 (by omega) (by omega)
  have h := check_ev m hin hsh (valsM m).length 0 (by omega) rfl
  refine Ev.next ?_
  simp only [S.jacquardref18_Put.j0, hw]
  refine Ev.bind (bytes_ev m.op 1 (by omega)) ?_
  cases hf : farOf m
  · have hh : headB m = byteAt m.op 0 := by unfold headB; rw [hf]; simp
    simp only [Bool.false_eq_true, if_false]
    refine Ev.next ?_
    simp only [S.jacquardref18_Put.j1]
    refine Ev.bind (regs_ev m) ?_
    rw [hf, hh] at h
    exact h
  · have hh : headB m = byteAt (m.op + 128) 0 := by unfold headB; rw [hf]; rfl
    simp only [if_true]
    refine Ev.bind (bytes_ev (m.op + 128) 1 (by omega)) ?_
    refine Ev.next ?_
    simp only [S.jacquardref18_Put.j1]
    refine Ev.bind (regs_ev m) ?_
    rw [hf, hh] at h
    exact h

/-! The contracts. -/
theorem rsize_any (m : M) (hs : m.args.length ≤ 1000000) (a : Option Addr) (c : Nat) (w : World) (har : ArgsIn w m a c) : Calls Tryd.prog 20 #[.agg (cellsM m a c)] w fun e w' => e = .returned (.int .i64 (sizeM m)) ∧ Below w.heap.size w w' := by
  obtain ⟨k, hk⟩ := (size_ev m hs).rounds
  exact S.jacquardref18_Size.calls k m.op m.d m.e m.a m.b m.c m.imm a c m.args _ w (Kd.C_of_reads (d := (0 : Int)) (readsInt_of.1 har.reads)) har.cap hk
theorem rput_any (m : M) (hin : InR m) (a : Option Addr) (c : Nat) (w : World) (har : ArgsIn w m a c) : Calls Tryd.prog 18 #[.agg (cellsM m a c)] w fun e w' => e = .returned (.tuple #[.string (bs (putS m)), .int .i64 (putE m)]) ∧ Below w.heap.size w w' := by
  obtain ⟨k, hk⟩ := (put_ev m hin).rounds
  exact S.jacquardref18_Put.calls k m.op m.d m.e m.a m.b m.c m.imm a c m.args _ _ w (Kd.C_of_reads (d := (0 : Int)) (readsInt_of.1 har.reads)) har.cap hk
theorem rshape_any (m : M) (hs : m.args.length ≤ 1000000) (a : Option Addr) (c : Nat) (w : World) (har : ArgsIn w m a c) : Calls Tryd.prog 46 #[.agg (cellsM m a c)] w fun e w' => e = .returned (.bool (shapeOk m)) ∧ Below w.heap.size w w' := by
  obtain ⟨k, hk⟩ := (shape_ev m hs).rounds
  exact S.jacquardref18_Shape.calls k m.op m.d m.e m.a m.b m.c m.imm a c m.args _ w (Kd.C_of_reads (d := (0 : Int)) (readsInt_of.1 har.reads)) har.cap hk
end Go.Proofs.YtmoplcchiadlpaaDoor.Jc
end
section
set_option linter.unusedVariables false
set_option linter.unusedSimpArgs false
namespace Go.Proofs.YtmoplcchiadlpaaDoor.Jc
open Go Go.RowKit Go.ChangeMaps Go.Proofs.YtmoplcchiadlpaaDoorW.PrintWords

/-- The k-th register of an instruction's bytes: the high half first. -/
def regAt (s : List UInt8) (k : Nat) : Int := if k % 2 = 0 then byteI s (1 + k / 2) / 16 else byteI s (1 + k / 2) % 16
def takeRegs (s : List UInt8) : M → List UInt8 → Nat → M
  | m, [], _ => m
  | m, x :: r, k => takeRegs s (setReg m x (regAt s k)) r (k + 1)
theorem takeRegs_snoc (s : List UInt8) (x : UInt8) : ∀ (l : List UInt8) (m : M) (k : Nat), takeRegs s m (l ++ [x]) k = setReg (takeRegs s m l k) x (regAt s (k + l.length))
  | [], m, k => rfl
  | y :: l, m, k => by
    have h := takeRegs_snoc s x l (setReg m y (regAt s k)) (k + 1)
    simp only [List.cons_append, takeRegs, List.length_cons]
    rw [h, show k + 1 + l.length = k + (l.length + 1) by omega]
theorem getRegs_is (s : List UInt8) : ∀ (l : List UInt8) (m : M) (j : Nat), 1 + j ≤ s.length →
    getRegs s l m (1 + j) = if 1 + j + (l.length + 1) / 2 ≤ s.length then .ok (takeRegs s m l (2 * j), 1 + j + (l.length + 1) / 2) else .error 62
  | [], m, j, h => by
    rw [if_pos (by simp; omega)]
    rfl
  | [x], m, j, h => by
    have e : regAt s (2 * j) = byteI s (1 + j) / 16 := by
      unfold regAt
      rw [if_pos (by omega), show 1 + 2 * j / 2 = 1 + j by omega]
    unfold getRegs
    by_cases hlt : 1 + j < s.length
    · have e3 : 1 + j + ([x].length + 1) / 2 = 1 + j + 1 := by simp
      rw [if_pos hlt, e3, if_pos (by omega)]
      simp only [takeRegs, e]
    · rw [if_neg hlt, if_neg (by simp; omega)]
  | x :: y :: r, m, j, h => by
    have e : regAt s (2 * j) = byteI s (1 + j) / 16 := by
      unfold regAt
      rw [if_pos (by omega), show 1 + 2 * j / 2 = 1 + j by omega]
    have e2 : regAt s (2 * j + 1) = byteI s (1 + j) % 16 := by
      unfold regAt
      rw [if_neg (by omega), show 1 + (2 * j + 1) / 2 = 1 + j by omega]
    unfold getRegs
    by_cases hlt : 1 + j < s.length
    · have ih := getRegs_is s r (setReg (setReg m x (byteI s (1 + j) / 16)) y (byteI s (1 + j) % 16)) (j + 1) (by omega)
      rw [if_pos hlt, show 1 + j + 1 = 1 + (j + 1) by omega, ih]
      have e3 : 1 + (j + 1) + (r.length + 1) / 2 = 1 + j + ((x :: y :: r).length + 1) / 2 := by simp; omega
      rw [e3]
      simp only [takeRegs, e, e2, show 2 * (j + 1) = 2 * j + 1 + 1 by omega]
    · rw [if_neg hlt, if_neg (by simp; omega)]
theorem setReg_e (m : M) (x : UInt8) (v e : Int) : setReg { m with e := e } x v = { setReg m x v with e := e } := by
  unfold setReg
  repeat' split
  all_goals rfl
theorem setReg_ar (m : M) (x : UInt8) (v : Int) (l : List Int) : setReg { m with args := l } x v = { setReg m x v with args := l } := by
  unfold setReg
  repeat' split
  all_goals rfl
theorem takeRegs_e (s : List UInt8) (e : Int) : ∀ (l : List UInt8) (m : M) (k : Nat), takeRegs s { m with e := e } l k = { takeRegs s m l k with e := e }
  | [], m, k => rfl
  | x :: l, m, k => by
    simp only [takeRegs, setReg_e]
    exact takeRegs_e s e l _ _
theorem takeRegs_ar (s : List UInt8) (ar : List Int) : ∀ (l : List UInt8) (m : M) (k : Nat), takeRegs s { m with args := ar } l k = { takeRegs s m l k with args := ar }
  | [], m, k => rfl
  | x :: l, m, k => by
    simp only [takeRegs, setReg_ar]
    exact takeRegs_ar s ar l _ _
theorem takeRegs_op (s : List UInt8) : ∀ (l : List UInt8) (m : M) (k : Nat), (takeRegs s m l k).op = m.op ∧ (takeRegs s m l k).args = m.args ∧ (takeRegs s m l k).imm = m.imm ∧ (takeRegs s m l k).e = m.e
  | [], m, k => ⟨rfl, rfl, rfl, rfl⟩
  | x :: l, m, k => by
    obtain ⟨h1, h2, h3, h4⟩ := takeRegs_op s l (setReg m x (regAt s k)) (k + 1)
    simp only [takeRegs]
    refine ⟨h1.trans (setReg_op m x _), h2.trans (setReg_args m x _), h3.trans ?_, h4.trans ?_⟩
    · unfold setReg; repeat' split
      all_goals rfl
    · unfold setReg; repeat' split
      all_goals rfl

/-- What the reference begins with. -/
def refM0 (s : List UInt8) : M := { fixE (startM s) with args := if opB s = 49 then List.replicate (byteI s 2).toNat 0 else [] }
def refP (s : List UInt8) : Nat := 1 + ((regsF (opB s)).length + 1) / 2
def refM1 (s : List UInt8) : M := takeRegs s (refM0 s) (regsF (opB s)) 0
/-- The number read into the instruction. -/
def refM2 (s : List UInt8) : M :=
  if numF (opB s) = 0 then refM1 s
  else if numF (opB s) = 110 then { refM1 s with imm := IntKind.i32.wrap (beNum ((s.drop (refP s + 1)).take 4)), args := callArgs (byteI s (refP s)).toNat }
  else if numF (opB s) = 101 then { refM1 s with e := byteI s (refP s) }
  else if numF (opB s) = 116 then { refM1 s with args := tableArgs s (refP s) (farB s) (byteI s 2).toNat }
  else { refM1 s with imm := IntKind.i32.wrap (sgnV (numF (opB s)) (farB s) (beNum ((s.drop (refP s)).take (widthF (numF (opB s)) (farB s)).1))) }
def refSize (s : List UInt8) : Nat :=
  refP s + (if numF (opB s) = 0 then 0 else if numF (opB s) = 110 then 5 else if numF (opB s) = 116 then 1 + 3 * (byteI s 2).toNat else (widthF (numF (opB s)) (farB s)).1)
/-- The byte of an Op that may stand there. -/
def opOk (s : List UInt8) : Bool := known (opB s) && (!farB s || decide (numF (opB s) = 98))

theorem startM_op (s : List UInt8) : (startM s).op = opB s := rfl
theorem fixE_op (m : M) : (fixE m).op = m.op := by unfold fixE; split <;> rfl
theorem refM0_op (s : List UInt8) : (refM0 s).op = opB s := fixE_op (startM s)
theorem refM1_op (s : List UInt8) : (refM1 s).op = opB s := (takeRegs_op s _ _ _).1.trans (refM0_op s)
theorem num29 : numF 29 = 0 := by decide +kernel
theorem num28 : numF 28 = 110 := by decide +kernel
theorem num50 : numF 50 = 101 := by decide +kernel
theorem far_ref (s : List UInt8) (h : opOk s = true) : farOf (refM0 s) = farB s := by
  unfold opOk at h
  simp only [Bool.and_eq_true, Bool.or_eq_true, Bool.not_eq_true', decide_eq_true_eq] at h
  unfold farOf
  rw [refM0_op]
  rcases h.2 with hf | h98
  · rw [hf]
    by_cases h98 : numF (opB s) = 98
    · have h29 : ¬ (startM s).op = 29 := fun e => by rw [startM_op] at e; rw [e, num29] at h98; exact absurd h98 (by decide)
      have e : (refM0 s).e = 0 := by
        unfold refM0 fixE
        rw [if_neg h29]
        unfold startM
        simp [hf]
      rw [e]
      simp
    · simp [h98]
  · have h29 : ¬ (startM s).op = 29 := fun e => by rw [startM_op] at e; rw [e, num29] at h98; exact absurd h98 (by decide)
    have e : (refM0 s).e = if farB s then 1 else 0 := by
      unfold refM0 fixE
      rw [if_neg h29]
      rfl
    rw [e, h98]
    cases farB s <;> rfl
theorem shape_ref (s : List UInt8) (h : opOk s = true) (h49 : opB s = 49 → 2 ≤ byteI s 2 ∧ byteI s 2 ≤ 65) : shapeOk (refM0 s) = true := by
  have hk : known (opB s) = true := by
    unfold opOk at h
    simp only [Bool.and_eq_true] at h
    exact h.1
  have ht := num_t (opB s) hk
  unfold shapeOk
  rw [refM0_op, hk, Bool.true_and]
  by_cases c28 : opB s = 28
  · have e : (refM0 s).args = [] := by unfold refM0; rw [if_neg (by omega)]
    have e2 : (refM0 s).d = 0 := by
      unfold refM0 fixE
      split <;> rfl
    rw [if_pos c28, e, e2]
    rfl
  rw [if_neg c28]
  by_cases c29 : opB s = 29
  · have e : (refM0 s).e = 1 := by
      unfold refM0 fixE
      rw [if_pos (show (startM s).op = 29 from c29)]
    have e2 : (refM0 s).d = 0 := by
      unfold refM0 fixE
      split <;> rfl
    rw [if_pos c29, e, e2]
    rfl
  rw [if_neg c29]
  have ee : (refM0 s).e = if farB s then 1 else 0 := by
    unfold refM0 fixE
    rw [if_neg (show ¬ (startM s).op = 29 from c29)]
    rfl
  by_cases cb : numF (opB s) = 98 ∨ opB s = 50
  · rw [if_pos cb, ee]
    cases farB s <;> rfl
  rw [if_neg cb]
  by_cases c116 : numF (opB s) = 116
  · have o49 : opB s = 49 := by simpa [c116] using ht
    obtain ⟨q1, q2⟩ := h49 o49
    have e : (refM0 s).args.length = (byteI s 2).toNat := by
      unfold refM0
      rw [if_pos o49]
      exact List.length_replicate
    rw [if_pos c116, e, Bool.and_eq_true, decide_eq_true_eq, decide_eq_true_eq]
    omega
  · rw [if_neg c116]
theorem size_ref (s : List UInt8) (h : opOk s = true) (h49 : opB s = 49 → 2 ≤ byteI s 2 ∧ byteI s 2 ≤ 65) : sizeM (refM0 s) = (refSize s : Int) := by
  have hk : known (opB s) = true := by
    unfold opOk at h
    simp only [Bool.and_eq_true] at h
    exact h.1
  have ht := num_t (opB s) hk
  have hsh := shape_ref s h h49
  unfold sizeM
  rw [if_neg (by rw [hsh]; decide), refM0_op, far_ref s h]
  unfold refSize refP
  by_cases c0 : numF (opB s) = 0
  · simp only [if_pos c0]
    omega
  simp only [if_neg c0]
  by_cases c110 : numF (opB s) = 110
  · simp only [if_pos c110]
    omega
  simp only [if_neg c110]
  by_cases c116 : numF (opB s) = 116
  · have o49 : opB s = 49 := by simpa [c116] using ht
    have e : (refM0 s).args.length = (byteI s 2).toNat := by
      unfold refM0
      rw [if_pos o49]
      exact List.length_replicate
    simp only [if_pos c116, e]
    omega
  · simp only [if_neg c116]
    omega

theorem getM_empty : getM [] = .error 62 := rfl
theorem getM_op (s : List UInt8) (h0 : s ≠ []) (h : opOk s = false) : getM s = .error 60 := by
  have h0 : ¬ s.length = 0 := fun e => h0 (List.eq_nil_of_length_eq_zero e)
  have h' : (known (opB s) && (!farB s || decide (numF (opB s) = 98))) = false := h
  unfold getM getRaw
  rw [if_neg h0, if_pos h']
theorem raw_of (s : List UInt8) (h0 : s ≠ []) (h : opOk s = true) : getRaw s = match (if refP s ≤ s.length then getNum s (takeRegs s (startM s) (regsF (opB s)) 0) (refP s) (farB s) else .error 62) with
      | .ok r => .ok (fixE r.1, r.2)
      | .error k => .error k := by
  have h0 : ¬ s.length = 0 := fun e => h0 (List.eq_nil_of_length_eq_zero e)
  have hg := getRegs_is s (regsF (opB s)) (startM s) 0 (by omega)
  unfold getRaw
  rw [if_neg h0, if_neg (show ¬ (known (opB s) && (!farB s || decide (numF (opB s) = 98))) = false by rw [show (known (opB s) && (!farB s || decide (numF (opB s) = 98))) = true from h]; decide)]
  rw [show getRegs s (regsF (opB s)) (startM s) 1 = getRegs s (regsF (opB s)) (startM s) (1 + 0) from rfl, hg]
  unfold refP
  simp only [Nat.add_zero, Nat.mul_zero]
  by_cases hc : 1 + ((regsF (opB s)).length + 1) / 2 ≤ s.length
  · simp only [if_pos hc]
    rfl
  · simp only [if_neg hc]
theorem fix_take (s : List UInt8) : fixE (takeRegs s (startM s) (regsF (opB s)) 0) = takeRegs s (fixE (startM s)) (regsF (opB s)) 0 := by
  have h := (takeRegs_op s (regsF (opB s)) (startM s) 0).1
  unfold fixE
  by_cases c : (startM s).op = 29
  · rw [if_pos (h.trans c), if_pos c]
    exact (takeRegs_e s 1 _ _ _).symm
  · rw [if_neg (fun e => c (h.symm.trans e)), if_neg c]
theorem m1_of (s : List UInt8) : refM1 s = { fixE (takeRegs s (startM s) (regsF (opB s)) 0) with args := if opB s = 49 then List.replicate (byteI s 2).toNat 0 else [] } := by
  rw [fix_take]
  unfold refM1 refM0
  exact takeRegs_ar s _ _ _ _
theorem fixE_args (m : M) (l : List Int) : fixE { m with args := l } = { fixE m with args := l } := by unfold fixE; split <;> rfl
theorem fixE_imm (m : M) (v : Int) : fixE { m with imm := v } = { fixE m with imm := v } := by unfold fixE; split <;> rfl
theorem fixE_both (m : M) (v : Int) (l : List Int) : fixE { m with imm := v, args := l } = { fixE m with imm := v, args := l } := by unfold fixE; split <;> rfl
theorem fixE_e (m : M) (v : Int) (h : m.op ≠ 29) : fixE { m with e := v } = { fixE m with e := v } := by
  unfold fixE
  rw [if_neg h, if_neg h]
/-- Bytes that are enough: what is got, but for the last look. -/
theorem raw_ref (s : List UInt8) (h0 : s ≠ []) (h : opOk s = true) (h49 : opB s = 49 → 3 ≤ s.length ∧ 2 ≤ byteI s 2 ∧ byteI s 2 ≤ 65) (hs : refSize s ≤ s.length) (h28 : opB s = 28 → byteI s (refP s) ≤ 4) :
    getRaw s = .ok (refM2 s, refSize s) := by
  have hk : known (opB s) = true := by
    unfold opOk at h
    simp only [Bool.and_eq_true] at h
    exact h.1
  have ht := num_t (opB s) hk
  have hkk := kinds_of (opB s) hk (farB s)
  have hop := (takeRegs_op s (regsF (opB s)) (startM s) 0).1
  have har := (takeRegs_op s (regsF (opB s)) (startM s) 0).2.1
  rw [startM_op] at hop
  have hfa : (fixE (takeRegs s (startM s) (regsF (opB s)) 0)).args = [] := by
    unfold fixE
    split
    · exact har
    · exact har
  rw [raw_of s h0 h]
  unfold refSize at hs
  rw [if_pos (by omega)]
  unfold refM2 refSize
  rw [m1_of]
  generalize takeRegs s (startM s) (regsF (opB s)) 0 = m at hop har hfa ⊢
  have same : ∀ g : M, g.args = [] → { g with args := [] } = g := fun g e => by cases g; simp at e; simp [e]
  have hop2 : numF m.op = numF (opB s) := by rw [hop]
  unfold getNum
  rw [hop2]
  rcases hkk with ⟨h1, _, _, _, h5⟩ | ⟨h1, _, h3⟩ | ⟨h1, _, h3⟩ | ⟨h1, _, h3⟩ | ⟨_, h2, h3, h4, h5, h6, h7, h8⟩
  · have n49 : ¬ opB s = 49 := fun e => by have h1' := h1; rw [e] at h1'; exact absurd h1' (by decide +kernel)
    simp only [if_pos h1, if_neg n49, same _ hfa, Nat.add_zero]
  · have n0 : ¬ numF (opB s) = 0 := by rw [h1]; decide
    have n49 : ¬ opB s = 49 := by omega
    have n4 := h28 h3
    have nr := byteI_range s (refP s)
    simp only [if_neg n0, if_pos h1] at hs ⊢
    rw [if_neg (by omega), if_neg (by omega)]
    simp only [fixE_both]
    rw [show min (byteI s (refP s)).toNat 5 = (byteI s (refP s)).toNat by omega]
  · have n0 : ¬ numF (opB s) = 0 := by rw [h1]; decide
    have n110 : ¬ numF (opB s) = 110 := by rw [h1]; decide
    have n116 : ¬ numF (opB s) = 116 := by rw [h1]; decide
    have n49 : ¬ opB s = 49 := fun e => by have h1' := h1; rw [e] at h1'; exact absurd h1' (by decide +kernel)
    have n29 : m.op ≠ 29 := fun e => by rw [hop] at e; rw [e, num29] at h1; exact absurd h1 (by decide)
    have hw : (widthF (numF (opB s)) (farB s)).1 = 1 := by rw [h1]; rfl
    simp only [if_neg n0, if_neg n110, if_pos h1, if_neg n116, hw] at hs ⊢
    rw [if_neg (by omega)]
    have hf := fixE_e m (byteI s (refP s)) n29
    simp only [hf, if_neg n49, hfa]
  · have n0 : ¬ numF (opB s) = 0 := by rw [h1]; decide
    have n110 : ¬ numF (opB s) = 110 := by rw [h1]; decide
    have n101 : ¬ numF (opB s) = 101 := by rw [h1]; decide
    have o49 : opB s = 49 := by simpa [h1] using ht
    have hR : refP s = 2 := by unfold refP; rw [o49]; decide +kernel
    obtain ⟨q0, q1, q2⟩ := h49 o49
    simp only [if_neg n0, if_neg n110, if_neg n101, if_pos h1, hR] at hs ⊢
    rw [if_neg (by omega), if_neg (show ¬ ¬ (2 ≤ byteI s 2 ∧ byteI s 2 ≤ 65) from fun e => e ⟨q1, q2⟩), if_neg (by omega)]
    simp only [fixE_args]
    rw [show 2 + 1 + 3 * (byteI s 2).toNat = 2 + (1 + 3 * (byteI s 2).toNat) by omega]
  · have n49 : ¬ opB s = 49 := fun e => by have h5' := h5; rw [e] at h5'; exact h5' (by decide +kernel)
    simp only [if_neg h2, if_neg h3, if_neg h4, if_neg h5] at hs ⊢
    by_cases h119 : numF (opB s) = 119
    · have hw : (widthF (numF (opB s)) (farB s)).1 = 4 := by rw [h119]; rfl
      rw [hw] at hs ⊢
      rw [if_pos h119, if_neg (by omega)]
      have hsg : ∀ n : Int, IntKind.i32.wrap (sgnV (numF (opB s)) (farB s) n) = IntKind.i32.wrap n := fun n => by
        rw [h119]
        unfold sgnV
        split
        · have e4 : (8 * (widthF 119 (farB s)).1) = 32 := rfl
          rw [e4]
          simp [IntKind.wrap, IntKind.bits, IntKind.signed]
          try omega
        · rfl
      simp only [fixE_imm, if_neg n49, hfa, hsg]
    · rw [if_neg h119, if_neg (by omega)]
      simp only [fixE_imm, if_neg n49, hfa]
/-- Too few bytes. -/
theorem getM_short (s : List UInt8) (h0 : s ≠ []) (h : opOk s = true) (h49 : opB s = 49 → 3 ≤ s.length ∧ 2 ≤ byteI s 2 ∧ byteI s 2 ≤ 65) (hs : s.length < refSize s) : getM s = .error 62 := by
  have hk : known (opB s) = true := by
    unfold opOk at h
    simp only [Bool.and_eq_true] at h
    exact h.1
  have ht := num_t (opB s) hk
  have hkk := kinds_of (opB s) hk (farB s)
  have hop := (takeRegs_op s (regsF (opB s)) (startM s) 0).1
  rw [startM_op] at hop
  suffices hr : getRaw s = .error 62 by unfold getM; rw [hr]
  rw [raw_of s h0 h]
  by_cases hp : refP s ≤ s.length
  · rw [if_pos hp]
    unfold refSize at hs
    generalize takeRegs s (startM s) (regsF (opB s)) 0 = m at hop ⊢
    have hop2 : numF m.op = numF (opB s) := by rw [hop]
    unfold getNum
    rw [hop2]
    rcases hkk with ⟨h1, _, _, _, h5⟩ | ⟨h1, _, h3⟩ | ⟨h1, _, h3⟩ | ⟨h1, _, h3⟩ | ⟨_, h2, h3, h4, h5, h6, h7, h8⟩
    · rw [if_pos h1] at hs
      omega
    · have n0 : ¬ numF (opB s) = 0 := by rw [h1]; decide
      simp only [if_neg n0, if_pos h1] at hs ⊢
      by_cases q : s.length < refP s + 1
      · rw [if_pos q]
      · rw [if_neg q, if_pos (by omega)]
    · have n0 : ¬ numF (opB s) = 0 := by rw [h1]; decide
      have n110 : ¬ numF (opB s) = 110 := by rw [h1]; decide
      have n116 : ¬ numF (opB s) = 116 := by rw [h1]; decide
      have hw : (widthF (numF (opB s)) (farB s)).1 = 1 := by rw [h1]; rfl
      simp only [if_neg n0, if_neg n110, if_pos h1, if_neg n116, hw] at hs ⊢
      rw [if_pos hs]
    · have n0 : ¬ numF (opB s) = 0 := by rw [h1]; decide
      have n110 : ¬ numF (opB s) = 110 := by rw [h1]; decide
      have n101 : ¬ numF (opB s) = 101 := by rw [h1]; decide
      have o49 : opB s = 49 := by simpa [h1] using ht
      have hR : refP s = 2 := by unfold refP; rw [o49]; decide +kernel
      obtain ⟨q0, q1, q2⟩ := h49 o49
      simp only [if_neg n0, if_neg n110, if_neg n101, if_pos h1, hR] at hs ⊢
      rw [if_neg (by omega), if_neg (show ¬ ¬ (2 ≤ byteI s 2 ∧ byteI s 2 ≤ 65) from fun e => e ⟨q1, q2⟩), if_pos (by omega)]
    · simp only [if_neg h2, if_neg h3, if_neg h4, if_neg h5] at hs ⊢
      by_cases h119 : numF (opB s) = 119
      · have hw : (widthF (numF (opB s)) (farB s)).1 = 4 := by rw [h119]; rfl
        rw [hw] at hs
        rw [if_pos h119, if_pos hs]
      · rw [if_neg h119, if_pos hs]
  · rw [if_neg hp]
theorem getM_49short (s : List UInt8) (h0 : s ≠ []) (h : opOk s = true) (o49 : opB s = 49) (hs : s.length < 3) : getM s = .error 62 := by
  have hop := (takeRegs_op s (regsF (opB s)) (startM s) 0).1
  rw [startM_op] at hop
  have hR : refP s = 2 := by unfold refP; rw [o49]; decide +kernel
  have h116 : numF (opB s) = 116 := by rw [o49]; decide +kernel
  suffices hr : getRaw s = .error 62 by unfold getM; rw [hr]
  rw [raw_of s h0 h, hR]
  by_cases hp : 2 ≤ s.length
  · rw [if_pos hp]
    generalize takeRegs s (startM s) (regsF (opB s)) 0 = m at hop ⊢
    have hop2 : numF m.op = numF (opB s) := by rw [hop]
    unfold getNum
    rw [hop2, h116, if_neg (by decide), if_neg (by decide), if_neg (by decide), if_pos rfl, if_pos (by omega)]
  · rw [if_neg hp]
theorem getM_49count (s : List UInt8) (h0 : s ≠ []) (h : opOk s = true) (o49 : opB s = 49) (hs : 3 ≤ s.length) (hc : ¬ (2 ≤ byteI s 2 ∧ byteI s 2 ≤ 65)) : getM s = .error 60 := by
  have hop := (takeRegs_op s (regsF (opB s)) (startM s) 0).1
  rw [startM_op] at hop
  have hR : refP s = 2 := by unfold refP; rw [o49]; decide +kernel
  have h116 : numF (opB s) = 116 := by rw [o49]; decide +kernel
  suffices hr : getRaw s = .error 60 by unfold getM; rw [hr]
  rw [raw_of s h0 h, hR, if_pos (by omega)]
  generalize takeRegs s (startM s) (regsF (opB s)) 0 = m at hop ⊢
  have hop2 : numF m.op = numF (opB s) := by rw [hop]
  unfold getNum
  rw [hop2, h116, if_neg (by decide), if_neg (by decide), if_neg (by decide), if_pos rfl, if_neg (by omega), if_pos hc]
theorem getM_28many (s : List UInt8) (h0 : s ≠ []) (h : opOk s = true) (o28 : opB s = 28) (hs : refSize s ≤ s.length) (hc : 4 < byteI s (refP s)) : getM s = .error 60 := by
  have hop := (takeRegs_op s (regsF (opB s)) (startM s) 0).1
  rw [startM_op] at hop
  have h110 : numF (opB s) = 110 := by rw [o28]; exact num28
  have nr := byteI_range s (refP s)
  unfold refSize at hs
  rw [h110, if_neg (by decide), if_pos rfl] at hs
  have hr : ∃ m, getRaw s = .ok (m, refP s + 1 + 4) ∧ m.op = 28 ∧ m.args.length = 5 := by
    rw [raw_of s h0 h, if_pos (by omega)]
    generalize takeRegs s (startM s) (regsF (opB s)) 0 = m at hop ⊢
    have hop2 : numF m.op = numF (opB s) := by rw [hop]
    unfold getNum
    rw [hop2, h110, if_neg (by decide), if_pos rfl, if_neg (by omega), if_neg (by omega)]
    refine ⟨_, rfl, ?_, ?_⟩
    · rw [fixE_op]
      exact hop.trans o28
    · simp only [fixE_both]
      show (callArgs (min (byteI s (refP s)).toNat 5)).length = 5
      unfold callArgs
      rw [List.length_map, List.length_range]
      omega
  obtain ⟨m, hr, h1, h2⟩ := hr
  have hsh : shapeOk m = false := by
    unfold shapeOk
    rw [h1, if_pos rfl, h2]
    simp
  unfold getM
  rw [hr]
  simp only [put, if_pos hsh]
/-- The last look. -/
theorem getM_last (s : List UInt8) {m : M} {n : Nat} (hr : getRaw s = .ok (m, n)) : getM s = if putE m = 0 ∧ putS m = s.take n then .ok (m, n) else .error 60 := by
  unfold getM putE putS
  rw [hr]
  simp only []
  cases hp : put m with
  | ok t => simp
  | error k =>
    have hk : ¬ k = 0 := by rcases put_err hp with h | h | h | h <;> omega
    simp [hk]
end Go.Proofs.YtmoplcchiadlpaaDoor.Jc
end
section
set_option linter.unusedVariables false
set_option linter.unusedSimpArgs false
namespace Go.Proofs.YtmoplcchiadlpaaDoor.Jc
open Go Go.RowKit Go.ChangeMaps Go.Proofs.YtmoplcchiadlpaaDoorW.PrintWords Go.Proofs.YtmoplcchiadlpaaDoorW.PrintLast Go.Proofs.YtmoplcchiadlpaaDoorW.PrintMore

theorem pow_le4 (a b : Nat) (h : a ≤ b) (hb : b ≤ 4) : (256 : Int) ^ a ≤ 256 ^ b := by
  have key : ∀ b, b ≤ 4 → ∀ a, a ≤ b → (256 : Int) ^ a ≤ 256 ^ b := by decide
  exact key b hb a h
theorem be_four (l : List UInt8) (h : l.length ≤ 4) : 0 ≤ beNum l ∧ beNum l ≤ 4294967295 := by
  have hr := beNum_range l
  have hp := pow_le4 l.length 4 h (by decide)
  generalize (256 : Int) ^ l.length = q at hr hp
  have e : (256 : Int) ^ 4 = 4294967296 := rfl
  rw [e] at hp
  omega
theorem be_three (l : List UInt8) (h : l.length ≤ 3) : 0 ≤ beNum l ∧ beNum l ≤ 16777215 := by
  have hr := beNum_range l
  have hp := pow_le4 l.length 3 h (by decide)
  generalize (256 : Int) ^ l.length = q at hr hp
  have e : (256 : Int) ^ 3 = 16777216 := rfl
  rw [e] at hp
  omega
theorem sgn_words (lo hi x : Int) (h : 0 ≤ hi ∧ hi ≤ 2147483647) (hx : 0 ≤ x ∧ x ≤ 4294967295) : wrap64 (hi + 1) = hi + 1 ∧ wrap64 (2 * (hi + 1)) = 2 * (hi + 1) ∧ wrap64 (x - 2 * (hi + 1)) = x - 2 * (hi + 1) :=
  ⟨w64 (by omega) (by omega), w64 (by omega) (by omega), w64 (by omega) (by omega)⟩
theorem be_words (x b : Int) (hx : 0 ≤ x ∧ x ≤ 16777215) (hb : 0 ≤ b ∧ b ≤ 255) : wrap64 (x * 256) = x * 256 ∧ wrap64 b = b ∧ wrap64 (x * 256 + b) = 256 * x + b :=
  ⟨w64 (by omega) (by omega), w64 (by omega) (by omega), (w64 (by omega) (by omega)).trans (by omega)⟩
def sgnOf (n : Int × Int × Int) (x : Int) : Int := if n.2.1 < 0 then (if x > n.2.2 then x - 2 * (n.2.2 + 1) else x) else x
theorem signed_loop (t : List UInt8) (ht : t.length ≤ 4) (n : Int × Int × Int) (hn : 0 ≤ n.2.2 ∧ n.2.2 ≤ 2147483647) : ∀ (d i : Nat), i + d = t.length →
    Ev (fun k => S.jacquardref18_signed.l0 k (bs t) (beNum (t.take i)) (i : Int) n.1 n.2.1 n.2.2) (sgnOf n (beNum t))
  | 0, i, hd => by
    have hs := bs_size t
    have hlt : ¬ (i : Int) < ((bs t).size : Int) := by rw [hs]; omega
    obtain ⟨e, e2, e3⟩ := sgn_words n.2.1 n.2.2 (beNum t) hn (be_four t ht)
    rw [List.take_of_length_le (by omega)]
    refine Ev.next ?_
    simp only [S.jacquardref18_signed.l0, if_neg hlt, e, e2, e3]
    unfold sgnOf
    by_cases h1 : n.2.1 < 0
    · by_cases h2 : beNum t > n.2.2
      · simp only [if_pos h1, if_pos h2]
        exact Ev.now _
      · simp only [if_pos h1, if_neg h2]
        exact Ev.now _
    · simp only [if_neg h1]
      exact Ev.now _
  | d + 1, i, hd => by
    have hs := bs_size t
    have hi : i < t.length := by omega
    have hl : (t.take i).length ≤ 3 := by rw [List.length_take]; omega
    have hb := (t[i]'hi).toNat_lt
    have hlt : (i : Int) < ((bs t).size : Int) := by rw [hs]; omega
    have h0 : (0 : Int) ≤ (i : Int) := by omega
    have hd2 : i + 1 + d = t.length := by omega
    have e4 := wrap_nat (n := i) (by omega)
    have esn : beNum (t.take (i + 1)) = 256 * beNum (t.take i) + ((t[i]'hi).toNat : Int) := by rw [List.take_succ_eq_append_getElem hi, beNum_snoc]
    obtain ⟨e1, e2, e3⟩ := be_words (beNum (t.take i)) ((t[i]'hi).toNat : Int) (be_three _ hl) ⟨by omega, by omega⟩
    rw [← esn] at e3
    refine Ev.next ?_
    simp only [S.jacquardref18_signed.l0, if_pos hlt, if_pos h0, bt_bs t i hi, e1, e2, e3, e4]
    exact signed_loop t ht n hn d (i + 1) hd2
theorem signed_ev (t : List UInt8) (ht : t.length ≤ 4) (n : Int × Int × Int) (hn : 0 ≤ n.2.2 ∧ n.2.2 ≤ 2147483647) : Ev (fun k => S.jacquardref18_signed.f k (bs t) n.1 n.2.1 n.2.2) (sgnOf n (beNum t)) := by
  have h := signed_loop t ht n hn t.length 0 (by omega)
  unfold S.jacquardref18_signed.f
  simpa [beNum, beGo] using h
theorem ofT_hi (x : UInt8) (far : Bool) : 0 ≤ (ofT x far).2.2 ∧ (ofT x far).2.2 ≤ 2147483647 := by
  unfold ofT
  repeat' split
  all_goals exact ⟨by decide, by decide⟩
theorem rsigned_any (t : List UInt8) (ht : t.length ≤ 4) (x : UInt8) (far : Bool) (w : World) :
    Calls Tryd.prog 61 #[.string (bs t), .agg #[.int .i64 (ofT x far).1, .int .i64 (ofT x far).2.1, .int .i64 (ofT x far).2.2]] w fun e w' => e = .returned (.int .i64 (sgnOf (ofT x far) (beNum t))) ∧ Below w.heap.size w w' := by
  obtain ⟨k, hk⟩ := (signed_ev t ht (ofT x far) (ofT_hi x far)).rounds
  refine (S.jacquardref18_signed.calls k (bs t) _ _ _ _ w hk).mono fun e w' h => ⟨h.1, ?_⟩
  first | exact h.2 | exact drawn_below h.2
/-- Of bytes as many as the field has: our number with a sign. -/
theorem sgn_same (x : UInt8) (far : Bool) (hx : x = 116 ∨ ofT x far = (((widthF x far).1 : Int), (widthF x far).2.1, (widthF x far).2.2)) (h0 : x ≠ 110) (h1 : x ≠ 101) (n : Int) : sgnOf (ofT x far) n = sgnV x far n := by
  have hof : ofT x far = (((widthF x far).1 : Int), (widthF x far).2.1, (widthF x far).2.2) := by
    rcases hx with rfl | h
    · cases far <;> rfl
    · exact h
  have hw : ((widthF x far).1 = 2 ∧ (widthF x far).2.1 = -32768 ∧ (widthF x far).2.2 = 32767) ∨ ((widthF x far).1 = 4 ∧ (widthF x far).2.1 = -2147483648 ∧ (widthF x far).2.2 = 2147483647) ∨ ((widthF x far).1 = 1 ∧ (widthF x far).2.1 = -128 ∧ (widthF x far).2.2 = 127) ∨
      ((widthF x far).2.1 = 0) ∨ ((widthF x far).1 = 3 ∧ (widthF x far).2.1 = -8388608 ∧ (widthF x far).2.2 = 8388607) := by
    unfold widthF
    repeat' split
    all_goals simp
  rw [hof]
  unfold sgnOf sgnV
  rcases hw with ⟨a, b, c⟩ | ⟨a, b, c⟩ | ⟨a, b, c⟩ | b | ⟨a, b, c⟩
  · simp only [a, b, c]
    repeat' split
    all_goals first | rfl | omega
  · simp only [a, b, c]
    repeat' split
    all_goals first | rfl | omega
  · simp only [a, b, c]
    repeat' split
    all_goals first | rfl | omega
  · simp only [b]
    repeat' split
    all_goals first | rfl | omega
  · simp only [a, b, c]
    repeat' split
    all_goals first | rfl | omega
end Go.Proofs.YtmoplcchiadlpaaDoor.Jc
end
section
set_option linter.unusedVariables false
set_option linter.unusedSimpArgs false
namespace Go.Proofs.YtmoplcchiadlpaaDoor.Jc
open Go Go.RowKit Go.ChangeMaps Go.Proofs.YtmoplcchiadlpaaDoorW.PrintWords

def m1 : M := ⟨5, 1, 0, 2, 3, 0, 0, []⟩
def m2 : M := ⟨40, 0, 0, 0, 0, 0, -2, []⟩
def m3 : M := ⟨41, 0, 1, 3, 0, 0, 5, []⟩
def m4 : M := ⟨40, 0, 0, 0, 0, 0, 0, []⟩
theorem inR_of (m : M) (h : (decide (-2147483648 ≤ m.imm) && decide (m.imm ≤ 2147483647) && [m.op, m.d, m.e, m.a, m.b, m.c].all (fun n => decide (-9223372036854775808 ≤ n) && decide (n ≤ 9223372036854775807)) && m.args.all (fun n => decide (-9223372036854775808 ≤ n) && decide (n ≤ 9223372036854775807)) && decide (m.args.length ≤ 1000000)) = true) : InR m := by
  simp only [Bool.and_eq_true, decide_eq_true_eq, List.all_cons, List.all_nil, List.all_eq_true, and_true] at h
  obtain ⟨⟨⟨⟨h1, h2⟩, h3, h4, h5, h6, h7, h8⟩, h9⟩, h10⟩ := h
  exact ⟨⟨h1, h2⟩, h3, h4, h5, h6, h7, h8, fun x hx => h9 x hx, h10⟩
theorem in1 : InR m1 := inR_of m1 (by decide)
theorem in2 : InR m2 := inR_of m2 (by decide)
theorem in3 : InR m3 := inR_of m3 (by decide)
theorem in4 : InR m4 := inR_of m4 (by decide)
theorem put1S : putS m1 = [5, 18, 48] ∧ putE m1 = 0 := by constructor <;> decide +kernel
theorem put2S : putS m2 = [40, 254] ∧ putE m2 = 0 := by constructor <;> decide +kernel
theorem put3S : putS m3 = [169, 48, 0, 0, 5] ∧ putE m3 = 0 := by constructor <;> decide +kernel
theorem get1S : getI [5, 18, 48, 120] = m1 ∧ getN [5, 18, 48, 120] = 3 ∧ getE [5, 18, 48, 120] = 0 := ⟨by kernel_rfl, by kernel_rfl, by kernel_rfl⟩
theorem get2S : getE [] = 62 := by decide +kernel
theorem get3S : getE [5, 18, 49] = 60 := by decide +kernel
theorem text3S : textM m3 = [98, 110, 122, 46, 108, 32, 114, 51, 32, 53] := by decide +kernel
theorem size4S : sizeM m4 = 2 := by decide +kernel
theorem name49 : nameOf 49 = [106, 116] := by decide +kernel
theorem args_nil (m : M) (h : m.args = []) (W : World) : ArgsIn W m none 0 := args_none h W

set_option maxRecDepth 100000 in
set_option maxHeartbeats 2000000 in
theorem shown_any (w : World) (htab : Lib.TabIs Tryd.prog w "strings.asciiSpace" .u8 Lib.asciiSpaceTab) (hpow : Lib.TabIs Tryd.prog w "internal/strconv.uint64pow10" .u64 Lib.pow10Tab) :
    Calls Tryd.prog 12 #[] w fun e w' => e = .returned (.bool true) ∧ Below w.heap.size w w' := by
  have HT := Lib.hid htab
  have HP := Lib.hid hpow
  clear htab hpow
  have p1 : ∀ W : World, Below w.heap.size w W → Calls Tryd.prog 14 #[.agg #[.int .i64 5, .int .i64 1, .int .i64 0, .int .i64 2, .int .i64 3, .int .i64 0, .int .i32 0, .slice none 0 0]] W fun e w' => e = .returned (.tuple #[.string ⟨#[5, 18, 48]⟩, .int .i64 0]) ∧ Below W.heap.size W w' := fun W hW => by
    have h := put_any m1 in1 none 0 W (args_nil m1 rfl W) (tabIs_below HT.out hW)
    rw [put1S.1, put1S.2] at h
    exact h
  have p2 : ∀ W : World, Below w.heap.size w W → Calls Tryd.prog 14 #[.agg #[.int .i64 40, .int .i64 0, .int .i64 0, .int .i64 0, .int .i64 0, .int .i64 0, .int .i32 (-2), .slice none 0 0]] W fun e w' => e = .returned (.tuple #[.string ⟨#[40, 254]⟩, .int .i64 0]) ∧ Below W.heap.size W w' := fun W hW => by
    have h := put_any m2 in2 none 0 W (args_nil m2 rfl W) (tabIs_below HT.out hW)
    rw [put2S.1, put2S.2] at h
    exact h
  have p3 : ∀ W : World, Below w.heap.size w W → Calls Tryd.prog 14 #[.agg #[.int .i64 41, .int .i64 0, .int .i64 1, .int .i64 3, .int .i64 0, .int .i64 0, .int .i32 5, .slice none 0 0]] W fun e w' => e = .returned (.tuple #[.string ⟨#[169, 48, 0, 0, 5]⟩, .int .i64 0]) ∧ Below W.heap.size W w' := fun W hW => by
    have h := put_any m3 in3 none 0 W (args_nil m3 rfl W) (tabIs_below HT.out hW)
    rw [put3S.1, put3S.2] at h
    exact h
  have P1 := Lib.hid p1
  have P2 := Lib.hid p2
  have P3 := Lib.hid p3
  clear p1 p2 p3
  go_enter Tryd.func12, Tryd.ntmps12
  go_wp2_with fail
  refine (P1.out _ (Below.refl _ _)).mono ?_
  rintro e w1 ⟨rfl, hb⟩
  have HB1 := Lib.hid hb
  clear hb
  go_wp2_with fail
  refine (P2.out _ HB1.out).mono ?_
  rintro e w2 ⟨rfl, hb⟩
  have HB2 := Lib.hid (below_step HB1.out hb)
  clear hb HB1
  go_wp2_with fail
  refine (P3.out _ HB2.out).mono ?_
  rintro e w3 ⟨rfl, hb⟩
  have HB3 := Lib.hid (below_step HB2.out hb)
  clear hb HB2
  go_wp2_with fail
  refine (get_any [5, 18, 48, 120] (by decide) _ (tabIs_below HT.out HB3.out)).mono ?_
  rintro e w4 ⟨a, c, rfl, hb, _, _⟩
  rw [get1S.1, get1S.2.1, get1S.2.2]
  have HB4 := Lib.hid (below_step HB3.out hb)
  clear hb HB3
  unfold cellsM m1
  go_wp2_with fail
  have hK := alloc_at w4 (.cells #[.int .i64 5, .int .i64 1, .int .i64 0, .int .i64 2, .int .i64 3, .int .i64 0, .int .i32 0, .slice a 0 c] 24)
  have hB := below_alloc HB4.out (.cells #[.int .i64 5, .int .i64 1, .int .i64 0, .int .i64 2, .int .i64 3, .int .i64 0, .int .i32 0, .slice a 0 c] 24)
  generalize w4.alloc (.cells #[.int .i64 5, .int .i64 1, .int .i64 0, .int .i64 2, .int .i64 3, .int .i64 0, .int .i32 0, .slice a 0 c] 24) = V4 at hK hB ⊢
  refine (get_any [] (by decide) _ (tabIs_below HT.out hB)).mono ?_
  rintro e w5 ⟨a5, c5, rfl, hb, _, _⟩
  rw [get2S]
  have HK5 := Lib.hid ((hb.block _ (blk_lt' hK)).trans hK)
  have HB5 := Lib.hid (below_step hB hb)
  clear hb hK hB HB4
  unfold cellsM
  generalize getI [] = g5
  generalize getN [] = n5
  go_wp2_with fail
  have hK := alloc_old (o := .cells #[.int .i64 g5.op, .int .i64 g5.d, .int .i64 g5.e, .int .i64 g5.a, .int .i64 g5.b, .int .i64 g5.c, .int .i32 g5.imm, .slice a5 g5.args.length c5] 24) HK5.out
  have hB := below_alloc HB5.out (.cells #[.int .i64 g5.op, .int .i64 g5.d, .int .i64 g5.e, .int .i64 g5.a, .int .i64 g5.b, .int .i64 g5.c, .int .i32 g5.imm, .slice a5 g5.args.length c5] 24)
  generalize w5.alloc (.cells #[.int .i64 g5.op, .int .i64 g5.d, .int .i64 g5.e, .int .i64 g5.a, .int .i64 g5.b, .int .i64 g5.c, .int .i32 g5.imm, .slice a5 g5.args.length c5] 24) = V5 at hK hB ⊢
  refine (get_any [5, 18, 49] (by decide) _ (tabIs_below HT.out hB)).mono ?_
  rintro e w6 ⟨a6, c6, rfl, hb, _, _⟩
  rw [get3S]
  have HK6 := Lib.hid ((hb.block _ (blk_lt' hK)).trans hK)
  have HB6 := Lib.hid (below_step hB hb)
  clear hb hK hB HB5 HK5
  unfold cellsM
  generalize getI [5, 18, 49] = g6
  generalize getN [5, 18, 49] = n6
  go_wp2_with fail
  have hK := alloc_old (o := .cells #[.int .i64 g6.op, .int .i64 g6.d, .int .i64 g6.e, .int .i64 g6.a, .int .i64 g6.b, .int .i64 g6.c, .int .i32 g6.imm, .slice a6 g6.args.length c6] 24) HK6.out
  have hB := below_alloc HB6.out (.cells #[.int .i64 g6.op, .int .i64 g6.d, .int .i64 g6.e, .int .i64 g6.a, .int .i64 g6.b, .int .i64 g6.c, .int .i32 g6.imm, .slice a6 g6.args.length c6] 24)
  generalize w6.alloc (.cells #[.int .i64 g6.op, .int .i64 g6.d, .int .i64 g6.e, .int .i64 g6.a, .int .i64 g6.b, .int .i64 g6.c, .int .i32 g6.imm, .slice a6 g6.args.length c6] 24) = V6 at hK hB ⊢
  have ht := text_any m3 in3 none 0 V6 (args_nil m3 rfl V6) (tabIs_below HT.out hB) (tabIs_below HP.out hB)
  rw [text3S] at ht
  refine ht.mono ?_
  rintro e w7 ⟨rfl, hb⟩
  have hk7 := (hb.block _ (blk_lt' hK)).trans hK
  have k0 := cell_blk hk7 0
  have k1 := cell_blk hk7 1
  have k3 := cell_blk hk7 3
  have k4 := cell_blk hk7 4
  have HB7 := Lib.hid (below_step hB hb)
  clear ht hb hK hB HB6 HK6 hk7
  have hs : ∀ W : World, Below w.heap.size w W → Calls Tryd.prog 19 #[.agg #[.int .i64 40, .int .i64 0, .int .i64 0, .int .i64 0, .int .i64 0, .int .i64 0, .int .i32 0, .slice none 0 0]] W fun e w' => e = .returned (.int .i64 2) ∧ Below W.heap.size W w' := fun W hW => by
    have h := size_any m4 none 0 W (args_nil m4 rfl W) (tabIs_below HT.out hW)
    rw [size4S] at h
    exact h
  have hn : ∀ W : World, Below w.heap.size w W → Calls Tryd.prog 17 #[.int .i64 49] W fun e w' => e = .returned (.string ⟨#[106, 116]⟩) ∧ Below W.heap.size W w' := fun W hW => by
    have h := name_any 49 W (tabIs_below HT.out hW)
    rw [name49] at h
    exact h
  have HS := Lib.hid hs
  have HN := Lib.hid hn
  clear hs hn P1 P2 P3
  go_wp2_with fail
  refine (HS.out _ HB7.out).mono ?_
  rintro e w8 ⟨rfl, hb⟩
  have HB8 := Lib.hid (below_step HB7.out hb)
  clear hb
  go_wp2_with fail
  refine (HN.out _ HB8.out).mono ?_
  rintro e w9 ⟨rfl, hb⟩
  have HB9 := Lib.hid (below_step HB8.out hb)
  clear hb
  go_wp2_with fail
  refine (control_any _ _).mono ?_
  rintro e w' ⟨rfl, rfl⟩
  go_wp2_with fail
  refine (control_any _ _).mono ?_
  rintro e w' ⟨rfl, rfl⟩
  go_wp2_with fail
  refine (reaches_any _ _).mono ?_
  rintro e w' ⟨rfl, rfl⟩
  go_wp2_with fail
  refine (reaches_any _ _).mono ?_
  rintro e w' ⟨rfl, rfl⟩
  go_wp2_with fail
  go_ret
  exact ⟨rfl, HB9.out⟩
end Go.Proofs.YtmoplcchiadlpaaDoor.Jc
end
