/- jacquardref18.Plain: an instruction without what its Op has not. -/
import Derived.Test.YtmoplcchiadlpaaDoorJcRefA
import Derived.Test.YtmoplcchiadlpaaDoorJcMach
import Derived.Test.YtmoplcchiadlpaaDoorJcPlain3
import Derived.Deep.DeepCutAuto
import Derived.Deep.CutBlock
set_option linter.unusedVariables false
set_option linter.unusedSimpArgs false
namespace Go.Proofs.YtmoplcchiadlpaaDoor.Jc
open Go Go.RowKit Go.ChangeMaps Go.Proofs.YtmoplcchiadlpaaDoorW.PrintWords

/-! Plain words. -/
def stepP (m g : M) (x : UInt8) : M :=
  if x = 68 then { g with d := m.d } else if x = 65 then { g with a := m.a } else if x = 66 then { g with b := m.b } else if x = 67 then { g with c := m.c }
  else if x = 116 ∨ x = 110 then { g with args := m.args } else if x = 101 then { g with e := m.e } else g
def startP (m : M) : M := ⟨m.op, 0, 0, 0, 0, 0, 0, []⟩
def partP (m : M) (k : Nat) : M := ((fieldsOf m.op).take k).foldl (stepP m) (startP m)
theorem partP_succ (m : M) (k : Nat) (h : k < (fieldsOf m.op).length) : partP m (k + 1) = stepP m (partP m k) ((fieldsOf m.op)[k]'h) := by
  unfold partP
  rw [List.take_succ_eq_append_getElem h, List.foldl_append]
  rfl
theorem partP_op (m : M) : ∀ k, (partP m k).op = m.op := by
  intro k
  unfold partP
  generalize (fieldsOf m.op).take k = l
  have : ∀ (l : List UInt8) (g : M), g.op = m.op → (l.foldl (stepP m) g).op = m.op := by
    intro l
    induction l with
    | nil => exact fun g h => h
    | cons x r ih =>
      intro g h
      refine ih _ ?_
      unfold stepP
      repeat' split
      all_goals exact h
  exact this l _ rfl
/-- The last letter (0: none). -/
def lastF (op : Int) : UInt8 := (fieldsOf op).getLastD 0
/-- The bytes of a letter's number, as the reference has them. -/
def ofBytes (x : UInt8) : Int := if x = 104 then 2 else if x = 119 then 4 else if x = 105 then 1 else if x = 115 then 1 else if x = 117 then 1 else if x = 112 then 2 else if x = 116 then 3 else if x = 98 then 1 else 0
def endP (m : M) : M :=
  let g := partP m (fieldsOf m.op).length
  let g1 := if 0 < ofBytes (lastF m.op) ∧ lastF m.op ≠ 116 then { g with imm := m.imm } else g
  if lastF m.op = 98 ∨ m.op = 29 then { g1 with e := m.e } else g1
theorem patterns : ∀ p ∈ tab, p.2.2 ∈ [[68, 65], [65, 66], [68, 104], [68, 119], [68, 65, 66], [68, 65, 105], [68, 65, 115], [68, 65, 66, 67], [68, 65, 117], [65, 66, 117], [65, 66, 67], [110, 119], [68, 112], [65, 112], [98], [65, 98], [65, 66, 98], [65, 116], [101], [119]] := by decide +kernel
theorem pattern_of (op : Int) : fieldsOf op = [] ∨ fieldsOf op ∈ [[68, 65], [65, 66], [68, 104], [68, 119], [68, 65, 66], [68, 65, 105], [68, 65, 115], [68, 65, 66, 67], [68, 65, 117], [65, 66, 117], [65, 66, 67], [110, 119], [68, 112], [65, 112], [98], [65, 98], [65, 66, 98], [65, 116], [101], [119]] := by
  unfold fieldsOf
  cases hi : info op tab with
  | none => exact .inl rfl
  | some x => exact .inr (patterns _ (info_mem hi))
theorem endP_plain (m : M) : endP m = plainM m := by
  have hp := pattern_of m.op
  unfold endP plainM partP lastF regsF numF
  generalize fieldsOf m.op = f at hp
  have key : ∀ f ∈ ([[], [68, 65], [65, 66], [68, 104], [68, 119], [68, 65, 66], [68, 65, 105], [68, 65, 115], [68, 65, 66, 67], [68, 65, 117], [65, 66, 117], [65, 66, 67], [110, 119], [68, 112], [65, 112], [98], [65, 98], [65, 66, 98], [65, 116], [101], [119]] : List (List UInt8)), True := fun _ _ => trivial
  rcases hp with rfl | hp
  · by_cases h29 : m.op = 29 <;> simp [startP, ofBytes, splitF, splitGo, h29]
  · simp only [List.mem_cons, List.not_mem_nil, or_false] at hp
    rcases hp with rfl | rfl | rfl | rfl | rfl | rfl | rfl | rfl | rfl | rfl | rfl | rfl | rfl | rfl | rfl | rfl | rfl | rfl | rfl | rfl <;>
      (by_cases h29 : m.op = 29 <;> simp [startP, stepP, ofBytes, splitF, splitGo, isReg, h29])

def ofT (x : UInt8) (far : Bool) : Int × Int × Int :=
  if x = 104 then (2, -32768, 32767) else if x = 119 then (4, -2147483648, 2147483647) else if x = 105 then (1, -128, 127) else if x = 115 then (1, 0, 31) else if x = 117 then (1, 0, 255) else if x = 112 then (2, 0, 16383)
  else if x = 116 then (3, -8388608, 8388607) else if x = 98 then (if far = true then (3, -8388608, 8388607) else (1, -128, 127)) else (0, 0, 0)
theorem u8_int (x y : UInt8) : ((x.toNat : Int) = (y.toNat : Int)) = (x = y) := by
  apply propext
  exact ⟨fun h => UInt8.toNat_inj.1 (by omega), fun h => by rw [h]⟩
theorem of_f (x : UInt8) (far : Bool) : S.jacquardref18_Of.f (x.toNat : Int) far = some (ofT x far) := by
  have e104 : ((x.toNat : Int) = 104) = (x = 104) := u8_int x 104
  have e119 : ((x.toNat : Int) = 119) = (x = 119) := u8_int x 119
  have e105 : ((x.toNat : Int) = 105) = (x = 105) := u8_int x 105
  have e115 : ((x.toNat : Int) = 115) = (x = 115) := u8_int x 115
  have e117 : ((x.toNat : Int) = 117) = (x = 117) := u8_int x 117
  have e112 : ((x.toNat : Int) = 112) = (x = 112) := u8_int x 112
  have e116 : ((x.toNat : Int) = 116) = (x = 116) := u8_int x 116
  have e98 : ((x.toNat : Int) = 98) = (x = 98) := u8_int x 98
  unfold S.jacquardref18_Of.f ofT
  simp only [e104, e119, e105, e115, e117, e112, e116, e98]
  repeat' split
  all_goals rfl
theorem of_any (x : UInt8) (far : Bool) (w : World) : Calls Tryd.prog 51 #[.int .u8 x.toNat, .bool far] w fun e w' => e = .returned (.agg #[.int .i64 (ofT x far).1, .int .i64 (ofT x far).2.1, .int .i64 (ofT x far).2.2]) ∧ Below w.heap.size w w' :=
  S.jacquardref18_Of.calls (x.toNat : Int) far _ _ _ w (of_f x far)
theorem ofBytes_eq (x : UInt8) : (ofT x false).1 = ofBytes x := by
  unfold ofT ofBytes
  repeat' split
  all_goals first | rfl | simp_all

theorem field_number (x y z : Value) (W : World) : (Instr.field 70 (.agg #[x, y, z]) 0).run Tryd.prog W = .ok x W := by
  kernel_rfl
set_option maxRecDepth 100000 in
set_option maxHeartbeats 4000000 in
theorem plain_any (m : M) (a : Option Addr) (c0 : Nat) (w : World) (har : ArgsIn w m a c0) (hsmall : m.args.length ≤ 1000000) : Calls Tryd.prog 27 #[.agg (cellsM m a c0)] w (HandsM (plainM m) w) := by
  have HA := Lib.hid har
  clear har
  unfold cellsM
  go_enter Tryd.func27, Tryd.ntmps27
  go_wp2_with fail
  have hi : MachAt (((w.alloc (.cells #[.int .i64 m.op, .int .i64 m.d, .int .i64 m.e, .int .i64 m.a, .int .i64 m.b, .int .i64 m.c, .int .i32 m.imm, .slice a m.args.length c0] 24)).alloc (.cells #[.int .i64 0, .int .i64 0, .int .i64 0, .int .i64 0, .int .i64 0, .int .i64 0, .int .i32 0, .slice none 0 0] 24)).alloc (.cells #[.int .i64 m.op, .int .i64 0, .int .i64 0, .int .i64 0, .int .i64 0, .int .i64 0, .int .i32 0, .slice none 0 0] 24)) w.heap.size m a c0 := alloc_old (alloc_old (alloc_at _ _))
  have hr : MachAt (((w.alloc (.cells #[.int .i64 m.op, .int .i64 m.d, .int .i64 m.e, .int .i64 m.a, .int .i64 m.b, .int .i64 m.c, .int .i32 m.imm, .slice a m.args.length c0] 24)).alloc (.cells #[.int .i64 0, .int .i64 0, .int .i64 0, .int .i64 0, .int .i64 0, .int .i64 0, .int .i32 0, .slice none 0 0] 24)).alloc (.cells #[.int .i64 m.op, .int .i64 0, .int .i64 0, .int .i64 0, .int .i64 0, .int .i64 0, .int .i32 0, .slice none 0 0] 24)) (w.heap.size + 1) zeroM none 0 := by
    have h := alloc_old (o := .cells #[.int .i64 m.op, .int .i64 0, .int .i64 0, .int .i64 0, .int .i64 0, .int .i64 0, .int .i32 0, .slice none 0 0] 24) (alloc_at (w.alloc (.cells #[.int .i64 m.op, .int .i64 m.d, .int .i64 m.e, .int .i64 m.a, .int .i64 m.b, .int .i64 m.c, .int .i32 m.imm, .slice a m.args.length c0] 24)) (.cells #[.int .i64 0, .int .i64 0, .int .i64 0, .int .i64 0, .int .i64 0, .int .i64 0, .int .i32 0, .slice none 0 0] 24))
    rw [alloc_size] at h
    exact h
  have hg : MachAt (((w.alloc (.cells #[.int .i64 m.op, .int .i64 m.d, .int .i64 m.e, .int .i64 m.a, .int .i64 m.b, .int .i64 m.c, .int .i32 m.imm, .slice a m.args.length c0] 24)).alloc (.cells #[.int .i64 0, .int .i64 0, .int .i64 0, .int .i64 0, .int .i64 0, .int .i64 0, .int .i32 0, .slice none 0 0] 24)).alloc (.cells #[.int .i64 m.op, .int .i64 0, .int .i64 0, .int .i64 0, .int .i64 0, .int .i64 0, .int .i32 0, .slice none 0 0] 24)) (w.heap.size + 1 + 1) (startP m) none 0 := by
    have h := alloc_at ((w.alloc (.cells #[.int .i64 m.op, .int .i64 m.d, .int .i64 m.e, .int .i64 m.a, .int .i64 m.b, .int .i64 m.c, .int .i32 m.imm, .slice a m.args.length c0] 24)).alloc (.cells #[.int .i64 0, .int .i64 0, .int .i64 0, .int .i64 0, .int .i64 0, .int .i64 0, .int .i32 0, .slice none 0 0] 24)) (.cells #[.int .i64 m.op, .int .i64 0, .int .i64 0, .int .i64 0, .int .i64 0, .int .i64 0, .int .i32 0, .slice none 0 0] 24)
    rw [alloc_size, alloc_size] at h
    exact h
  have hz : (((w.alloc (.cells #[.int .i64 m.op, .int .i64 m.d, .int .i64 m.e, .int .i64 m.a, .int .i64 m.b, .int .i64 m.c, .int .i32 m.imm, .slice a m.args.length c0] 24)).alloc (.cells #[.int .i64 0, .int .i64 0, .int .i64 0, .int .i64 0, .int .i64 0, .int .i64 0, .int .i32 0, .slice none 0 0] 24)).alloc (.cells #[.int .i64 m.op, .int .i64 0, .int .i64 0, .int .i64 0, .int .i64 0, .int .i64 0, .int .i32 0, .slice none 0 0] 24)).heap.size = w.heap.size + 1 + 1 + 1 := by simp
  have hb := below_alloc (below_alloc (below_alloc (Below.refl w.heap.size w) (.cells #[.int .i64 m.op, .int .i64 m.d, .int .i64 m.e, .int .i64 m.a, .int .i64 m.b, .int .i64 m.c, .int .i32 m.imm, .slice a m.args.length c0] 24)) (.cells #[.int .i64 0, .int .i64 0, .int .i64 0, .int .i64 0, .int .i64 0, .int .i64 0, .int .i32 0, .slice none 0 0] 24)) (.cells #[.int .i64 m.op, .int .i64 0, .int .i64 0, .int .i64 0, .int .i64 0, .int .i64 0, .int .i32 0, .slice none 0 0] 24)
  generalize ((w.alloc (.cells #[.int .i64 m.op, .int .i64 m.d, .int .i64 m.e, .int .i64 m.a, .int .i64 m.b, .int .i64 m.c, .int .i32 m.imm, .slice a m.args.length c0] 24)).alloc (.cells #[.int .i64 0, .int .i64 0, .int .i64 0, .int .i64 0, .int .i64 0, .int .i64 0, .int .i32 0, .slice none 0 0] 24)).alloc (.cells #[.int .i64 m.op, .int .i64 0, .int .i64 0, .int .i64 0, .int .i64 0, .int .i64 0, .int .i32 0, .slice none 0 0] 24) = V at hi hr hg hz hb ⊢
  refine (fields_any m.op V).mono ?_
  rintro e w1 ⟨rfl, hb1⟩
  have hs1 := hb1.size
  have HI1 := Lib.hid (hi.below hb1)
  have HR1 := Lib.hid (hr.below hb1)
  have HG1 := Lib.hid (hg.below hb1)
  have HB1 := Lib.hid (below_step hb hb1)
  have hw1 : w.heap.size + 1 + 1 + 1 ≤ w1.heap.size := by omega
  clear hi hr hg hz hb hb1 hs1
  have hfl := fields_short m.op
  have hsz := bs_size (fieldsOf m.op)
  go_wp2_with fail
  go_loopw [5] (fun i wl => ∃ (k : Nat) (A : Option Addr) (c : Nat), i = .int .i64 (k : Int) ∧ k ≤ (fieldsOf m.op).length ∧ w.heap.size + 1 + 1 + 1 ≤ wl.heap.size ∧ Aside0 (MachAt wl (w.heap.size + 1 + 1) (partP m k) A c) ∧ Aside0 (ArgsIn wl (partP m k) A c) ∧ Aside0 (∀ ad, A = some ad → w.heap.size + 1 + 1 + 1 ≤ ad.block) ∧
      Aside0 (MachAt wl w.heap.size m a c0) ∧ Aside0 (MachAt wl (w.heap.size + 1) zeroM none 0) ∧ Aside0 (Below w.heap.size w wl)) (fun i _ => (fieldsOf m.op).length - (intOf i).toNat)
  case atStart => exact ⟨0, none, 0, rfl, Nat.zero_le _, hw1, ⟨HG1.out⟩, ⟨args_none (m := partP m 0) rfl _⟩, ⟨fun ad h => by cases h⟩, ⟨HI1.out⟩, ⟨HR1.out⟩, ⟨HB1.out⟩⟩
  case round =>
    clear HI1 HR1 HG1 HB1 hw1
    obtain ⟨k, A, c, rfl, hk, hwr, HG, HAR, HF, HI, HR, HB⟩ := hrel
    by_cases hlt : k < (fieldsOf m.op).length
    · have hk2 : k < (bs (fieldsOf m.op)).size := by rw [hsz]; exact hlt
      have hsucc : partP m (k + 1) = stepP m (partP m k) ((bs (fieldsOf m.op))[k]'hk2) := partP_succ m k hlt
      obtain ⟨i0, i1, i2, i3, i4, i5, i6, i7, iz⟩ := HI.out.cells
      have gz := HG.out.cells.2.2.2.2.2.2.2.2
      have g1 := HG.out.cells.2.1
      have g2 := HG.out.cells.2.2.1
      have g3 := HG.out.cells.2.2.2.1
      have g4 := HG.out.cells.2.2.2.2.1
      have g5 := HG.out.cells.2.2.2.2.2.1
      have g7 := HG.out.cells.2.2.2.2.2.2.2.1
      by_cases n68 : ((bs (fieldsOf m.op))[k]'hk2) = 68
      · have hx := n68
        have q68 : ((((bs (fieldsOf m.op))[k]'hk2).toNat : Int) == 68) = true := by rw [hx]; rfl
        have hst : partP m (k + 1) = { partP m k with d := m.d } := by rw [hsucc, hx]; rfl
        have HST := Lib.hid hst
        clear hx hsucc hst n68 
        go_wp2_with fail
        go_roundw
        case rel =>
          have hne : ∀ ad, A = some ad → ad.block ≠ w.heap.size + 1 + 1 := fun ad ha => by have := HF.out ad ha; omega
          refine ⟨k + 1, A, c, by go_num, by omega, by simpa using hwr, ⟨?_⟩, ⟨?_⟩, HF, ⟨set_other HI.out (by omega) _ _⟩, ⟨set_other HR.out (by omega) _ _⟩, ⟨below_set HB.out (by omega) _ _⟩⟩
          · rw [HST.out]
            exact set_cells HG.out 1 (.int .i64 m.d)
          · rw [HST.out]
            exact (HAR.out.set hne _ _).same rfl
        case measure => simp [intOf]; omega
      by_cases n65 : ((bs (fieldsOf m.op))[k]'hk2) = 65
      · have hx := n65
        have q68 : ((((bs (fieldsOf m.op))[k]'hk2).toNat : Int) == 68) = false := u8_ne rfl n68
        have q65 : ((((bs (fieldsOf m.op))[k]'hk2).toNat : Int) == 65) = true := by rw [hx]; rfl
        have hst : partP m (k + 1) = { partP m k with a := m.a } := by rw [hsucc, hx]; rfl
        have HST := Lib.hid hst
        clear hx hsucc hst n65 n68
        go_wp2_with fail
        go_roundw
        case rel =>
          have hne : ∀ ad, A = some ad → ad.block ≠ w.heap.size + 1 + 1 := fun ad ha => by have := HF.out ad ha; omega
          refine ⟨k + 1, A, c, by go_num, by omega, by simpa using hwr, ⟨?_⟩, ⟨?_⟩, HF, ⟨set_other HI.out (by omega) _ _⟩, ⟨set_other HR.out (by omega) _ _⟩, ⟨below_set HB.out (by omega) _ _⟩⟩
          · rw [HST.out]
            exact set_cells HG.out 3 (.int .i64 m.a)
          · rw [HST.out]
            exact (HAR.out.set hne _ _).same rfl
        case measure => simp [intOf]; omega
      by_cases n66 : ((bs (fieldsOf m.op))[k]'hk2) = 66
      · have hx := n66
        have q68 : ((((bs (fieldsOf m.op))[k]'hk2).toNat : Int) == 68) = false := u8_ne rfl n68
        have q65 : ((((bs (fieldsOf m.op))[k]'hk2).toNat : Int) == 65) = false := u8_ne rfl n65
        have q66 : ((((bs (fieldsOf m.op))[k]'hk2).toNat : Int) == 66) = true := by rw [hx]; rfl
        have hst : partP m (k + 1) = { partP m k with b := m.b } := by rw [hsucc, hx]; rfl
        have HST := Lib.hid hst
        clear hx hsucc hst n66 n68 n65
        go_wp2_with fail
        go_roundw
        case rel =>
          have hne : ∀ ad, A = some ad → ad.block ≠ w.heap.size + 1 + 1 := fun ad ha => by have := HF.out ad ha; omega
          refine ⟨k + 1, A, c, by go_num, by omega, by simpa using hwr, ⟨?_⟩, ⟨?_⟩, HF, ⟨set_other HI.out (by omega) _ _⟩, ⟨set_other HR.out (by omega) _ _⟩, ⟨below_set HB.out (by omega) _ _⟩⟩
          · rw [HST.out]
            exact set_cells HG.out 4 (.int .i64 m.b)
          · rw [HST.out]
            exact (HAR.out.set hne _ _).same rfl
        case measure => simp [intOf]; omega
      by_cases n67 : ((bs (fieldsOf m.op))[k]'hk2) = 67
      · have hx := n67
        have q68 : ((((bs (fieldsOf m.op))[k]'hk2).toNat : Int) == 68) = false := u8_ne rfl n68
        have q65 : ((((bs (fieldsOf m.op))[k]'hk2).toNat : Int) == 65) = false := u8_ne rfl n65
        have q66 : ((((bs (fieldsOf m.op))[k]'hk2).toNat : Int) == 66) = false := u8_ne rfl n66
        have q67 : ((((bs (fieldsOf m.op))[k]'hk2).toNat : Int) == 67) = true := by rw [hx]; rfl
        have hst : partP m (k + 1) = { partP m k with c := m.c } := by rw [hsucc, hx]; rfl
        have HST := Lib.hid hst
        clear hx hsucc hst n67 n68 n65 n66
        go_wp2_with fail
        go_roundw
        case rel =>
          have hne : ∀ ad, A = some ad → ad.block ≠ w.heap.size + 1 + 1 := fun ad ha => by have := HF.out ad ha; omega
          refine ⟨k + 1, A, c, by go_num, by omega, by simpa using hwr, ⟨?_⟩, ⟨?_⟩, HF, ⟨set_other HI.out (by omega) _ _⟩, ⟨set_other HR.out (by omega) _ _⟩, ⟨below_set HB.out (by omega) _ _⟩⟩
          · rw [HST.out]
            exact set_cells HG.out 5 (.int .i64 m.c)
          · rw [HST.out]
            exact (HAR.out.set hne _ _).same rfl
        case measure => simp [intOf]; omega
      by_cases n116 : ((bs (fieldsOf m.op))[k]'hk2) = 116
      · have hx := n116
        have q68 : ((((bs (fieldsOf m.op))[k]'hk2).toNat : Int) == 68) = false := u8_ne rfl n68
        have q65 : ((((bs (fieldsOf m.op))[k]'hk2).toNat : Int) == 65) = false := u8_ne rfl n65
        have q66 : ((((bs (fieldsOf m.op))[k]'hk2).toNat : Int) == 66) = false := u8_ne rfl n66
        have q67 : ((((bs (fieldsOf m.op))[k]'hk2).toNat : Int) == 67) = false := u8_ne rfl n67
        have q116 : ((((bs (fieldsOf m.op))[k]'hk2).toNat : Int) == 116) = true := by rw [hx]; rfl
        have hst : partP m (k + 1) = { partP m k with args := m.args } := by rw [hsucc, hx]; rfl
        have HST := Lib.hid hst
        clear hx hsucc hst n116 n68 n65 n66 n67
        have hO := Lib.hid (World.ownsRow_made (base := wr.heap.size) (e := 3) (size := 1) wr #[] 0 (Nat.le_refl _) (by decide) (by simp))
        have hRD := Lib.hid ((HA.out.below HB.out).reads.below (below_alloc (Below.refl wr.heap.size wr) (.cells #[] 3)))
        have i7o : (wr.alloc (.cells #[] 3)).cell? ⟨w.heap.size, 7, none⟩ = some (.slice a m.args.length c0) := (cell_blk (alloc_old (o := .cells #[] 3) HI.out) 7).trans rfl
        go_wp2_with (at_builtin; (refine print_append_row wr.heap.size rfl (.tmp 45) (.tmp 47) 22 3 .i64 8 rfl Tryd.underlying22 info_int (by decide) _ [] m.args a _ c0 rfl rfl hO.out hRD.out (Below.refl _ _) (by simp) (by rw [List.length_nil]; omega) ?_; intro v1 w1 hown hB _ _; rw [List.nil_append] at hown; obtain ⟨A1, c1, hv1, hr1, hc1, hf1⟩ := own_args hown; subst hv1; have hbw := (below_alloc (Below.refl wr.heap.size wr) (.cells #[] 3)).trans hB; have hgg := HG.out.below hbw; have gz := hgg.cells.2.2.2.2.2.2.2.2; have g7 := hgg.cells.2.2.2.2.2.2.2.1; have HGG := Lib.hid hgg; have HBW := Lib.hid hbw; have HR1 := Lib.hid hr1; have HC1 := Lib.hid hc1; have HF1 := Lib.hid hf1; clear hgg hbw hown hr1 hc1 hf1 hB))
        go_roundw
        case rel =>
          have hne : ∀ ad, A1 = some ad → ad.block ≠ w.heap.size + 1 + 1 := fun ad ha => by have := HF1.out ad ha; omega
          have hz := HBW.out.size
          refine ⟨k + 1, A1, c1, by go_num, by omega, by simp; omega, ⟨?_⟩, ⟨?_⟩, ⟨fun ad ha => by have := HF1.out ad ha; omega⟩, ⟨set_other (HI.out.below HBW.out) (by omega) _ _⟩, ⟨set_other (HR.out.below HBW.out) (by omega) _ _⟩, ⟨below_set (below_step HB.out HBW.out) (by omega) _ _⟩⟩
          · rw [HST.out]
            exact set_cells HGG.out 7 (.slice A1 m.args.length c1)
          · rw [HST.out]
            exact (show ArgsIn w1 { partP m k with args := m.args } A1 c1 from ⟨HR1.out, HC1.out⟩).set hne _ _
        case measure => simp [intOf]; omega
      by_cases n110 : ((bs (fieldsOf m.op))[k]'hk2) = 110
      · have hx := n110
        have q68 : ((((bs (fieldsOf m.op))[k]'hk2).toNat : Int) == 68) = false := u8_ne rfl n68
        have q65 : ((((bs (fieldsOf m.op))[k]'hk2).toNat : Int) == 65) = false := u8_ne rfl n65
        have q66 : ((((bs (fieldsOf m.op))[k]'hk2).toNat : Int) == 66) = false := u8_ne rfl n66
        have q67 : ((((bs (fieldsOf m.op))[k]'hk2).toNat : Int) == 67) = false := u8_ne rfl n67
        have q116 : ((((bs (fieldsOf m.op))[k]'hk2).toNat : Int) == 116) = false := u8_ne rfl n116
        have q110 : ((((bs (fieldsOf m.op))[k]'hk2).toNat : Int) == 110) = true := by rw [hx]; rfl
        have hst : partP m (k + 1) = { partP m k with args := m.args } := by rw [hsucc, hx]; rfl
        have HST := Lib.hid hst
        clear hx hsucc hst n110 n68 n65 n66 n67 n116
        have hO := Lib.hid (World.ownsRow_made (base := wr.heap.size) (e := 3) (size := 1) wr #[] 0 (Nat.le_refl _) (by decide) (by simp))
        have hRD := Lib.hid ((HA.out.below HB.out).reads.below (below_alloc (Below.refl wr.heap.size wr) (.cells #[] 3)))
        have i7o : (wr.alloc (.cells #[] 3)).cell? ⟨w.heap.size, 7, none⟩ = some (.slice a m.args.length c0) := (cell_blk (alloc_old (o := .cells #[] 3) HI.out) 7).trans rfl
        go_wp2_with (at_builtin; (refine print_append_row wr.heap.size rfl (.tmp 45) (.tmp 47) 22 3 .i64 8 rfl Tryd.underlying22 info_int (by decide) _ [] m.args a _ c0 rfl rfl hO.out hRD.out (Below.refl _ _) (by simp) (by rw [List.length_nil]; omega) ?_; intro v1 w1 hown hB _ _; rw [List.nil_append] at hown; obtain ⟨A1, c1, hv1, hr1, hc1, hf1⟩ := own_args hown; subst hv1; have hbw := (below_alloc (Below.refl wr.heap.size wr) (.cells #[] 3)).trans hB; have hgg := HG.out.below hbw; have gz := hgg.cells.2.2.2.2.2.2.2.2; have g7 := hgg.cells.2.2.2.2.2.2.2.1; have HGG := Lib.hid hgg; have HBW := Lib.hid hbw; have HR1 := Lib.hid hr1; have HC1 := Lib.hid hc1; have HF1 := Lib.hid hf1; clear hgg hbw hown hr1 hc1 hf1 hB))
        go_roundw
        case rel =>
          have hne : ∀ ad, A1 = some ad → ad.block ≠ w.heap.size + 1 + 1 := fun ad ha => by have := HF1.out ad ha; omega
          have hz := HBW.out.size
          refine ⟨k + 1, A1, c1, by go_num, by omega, by simp; omega, ⟨?_⟩, ⟨?_⟩, ⟨fun ad ha => by have := HF1.out ad ha; omega⟩, ⟨set_other (HI.out.below HBW.out) (by omega) _ _⟩, ⟨set_other (HR.out.below HBW.out) (by omega) _ _⟩, ⟨below_set (below_step HB.out HBW.out) (by omega) _ _⟩⟩
          · rw [HST.out]
            exact set_cells HGG.out 7 (.slice A1 m.args.length c1)
          · rw [HST.out]
            exact (show ArgsIn w1 { partP m k with args := m.args } A1 c1 from ⟨HR1.out, HC1.out⟩).set hne _ _
        case measure => simp [intOf]; omega
      by_cases n101 : ((bs (fieldsOf m.op))[k]'hk2) = 101
      · have hx := n101
        have q68 : ((((bs (fieldsOf m.op))[k]'hk2).toNat : Int) == 68) = false := u8_ne rfl n68
        have q65 : ((((bs (fieldsOf m.op))[k]'hk2).toNat : Int) == 65) = false := u8_ne rfl n65
        have q66 : ((((bs (fieldsOf m.op))[k]'hk2).toNat : Int) == 66) = false := u8_ne rfl n66
        have q67 : ((((bs (fieldsOf m.op))[k]'hk2).toNat : Int) == 67) = false := u8_ne rfl n67
        have q116 : ((((bs (fieldsOf m.op))[k]'hk2).toNat : Int) == 116) = false := u8_ne rfl n116
        have q110 : ((((bs (fieldsOf m.op))[k]'hk2).toNat : Int) == 110) = false := u8_ne rfl n110
        have q101 : ((((bs (fieldsOf m.op))[k]'hk2).toNat : Int) == 101) = true := by rw [hx]; rfl
        have hst : partP m (k + 1) = { partP m k with e := m.e } := by rw [hsucc, hx]; rfl
        have HST := Lib.hid hst
        clear hx hsucc hst n101 n68 n65 n66 n67 n116 n110
        go_wp2_with fail
        go_roundw
        case rel =>
          have hne : ∀ ad, A = some ad → ad.block ≠ w.heap.size + 1 + 1 := fun ad ha => by have := HF.out ad ha; omega
          refine ⟨k + 1, A, c, by go_num, by omega, by simpa using hwr, ⟨?_⟩, ⟨?_⟩, HF, ⟨set_other HI.out (by omega) _ _⟩, ⟨set_other HR.out (by omega) _ _⟩, ⟨below_set HB.out (by omega) _ _⟩⟩
          · rw [HST.out]
            exact set_cells HG.out 2 (.int .i64 m.e)
          · rw [HST.out]
            exact (HAR.out.set hne _ _).same rfl
        case measure => simp [intOf]; omega
      have q68 : ((((bs (fieldsOf m.op))[k]'hk2).toNat : Int) == 68) = false := u8_ne rfl n68
      have q65 : ((((bs (fieldsOf m.op))[k]'hk2).toNat : Int) == 65) = false := u8_ne rfl n65
      have q66 : ((((bs (fieldsOf m.op))[k]'hk2).toNat : Int) == 66) = false := u8_ne rfl n66
      have q67 : ((((bs (fieldsOf m.op))[k]'hk2).toNat : Int) == 67) = false := u8_ne rfl n67
      have q116 : ((((bs (fieldsOf m.op))[k]'hk2).toNat : Int) == 116) = false := u8_ne rfl n116
      have q110 : ((((bs (fieldsOf m.op))[k]'hk2).toNat : Int) == 110) = false := u8_ne rfl n110
      have q101 : ((((bs (fieldsOf m.op))[k]'hk2).toNat : Int) == 101) = false := u8_ne rfl n101
      have hst : partP m (k + 1) = partP m k := by
        rw [hsucc]
        unfold stepP
        rw [if_neg n68, if_neg n65, if_neg n66, if_neg n67, if_neg (by rintro (h | h); exact n116 h; exact n110 h), if_neg n101]
      have HST := Lib.hid hst
      clear hsucc hst n68 n65 n66 n67 n116 n110 n101
      go_wp2_with fail
      go_roundw
      case rel => exact ⟨k + 1, A, c, by go_num, by omega, hwr, ⟨by rw [HST.out]; exact HG.out⟩, ⟨by rw [HST.out]; exact HAR.out⟩, HF, HI, HR, HB⟩
      case measure => simp [intOf]; omega
    · obtain rfl : k = (fieldsOf m.op).length := by omega
      obtain ⟨i0, i1, i2, i3, i4, i5, i6, i7, iz⟩ := HI.out.cells
      obtain ⟨g0, g1, g2, g3, g4, g5, g6, g7, gz⟩ := HG.out.cells
      have hop := partP_op m (fieldsOf m.op).length
      have hend := endP_plain m
      unfold endP at hend
      dsimp only at hend
      have hlast : ((fieldsOf m.op).length = 0 ∧ lastF m.op = 0) ∨ (0 < (fieldsOf m.op).length ∧ ∀ h : (fieldsOf m.op).length - 1 < (bs (fieldsOf m.op)).size, (bs (fieldsOf m.op))[(fieldsOf m.op).length - 1]'h = lastF m.op) := by
        unfold lastF
        by_cases h0 : (fieldsOf m.op).length = 0
        · refine .inl ⟨h0, ?_⟩
          rw [List.eq_nil_of_length_eq_zero h0]
          rfl
        · refine .inr ⟨by omega, fun h => ?_⟩
          have hne : fieldsOf m.op ≠ [] := fun e => h0 (by rw [e]; rfl)
          rw [List.getLastD_eq_getLast?, List.getLast?_eq_some_getLast hne, Option.getD_some, List.getLast_eq_getElem]
          rfl
      have HLAST := Lib.hid hlast
      have HEND := Lib.hid hend
      clear hlast hend
      go_upto_if 57 with (fail)
      go_cut [6] (fun v w' => v = .int .u8 (lastF m.op).toNat ∧ wr = w')
      case first =>
        rcases HLAST.out with ⟨h0, h1⟩ | ⟨h0, h1⟩
        · have q0 : decide (0 < (fieldsOf m.op).length) = false := by rw [h0]; rfl
          have H1 := Lib.hid h1
          have H0 := Lib.hid h0
          clear h0 h1
          go_wp2_with fail
          all_goals
            go_meet
            case rel =>
              first
              | exact ⟨by rw [H1.out]; rfl, rfl⟩
              | (exfalso; have h00 := H0.out; omega)
              | (exfalso; have h00 := H0.out; simp_all)
        · have q0 : decide (0 < (fieldsOf m.op).length) = true := by simpa using h0
          have hlt2 : (fieldsOf m.op).length - 1 < (bs (fieldsOf m.op)).size := by rw [hsz]; omega
          have H1 := Lib.hid (h1 hlt2)
          have e1 : (((fieldsOf m.op).length : Int) - 1).toNat = (fieldsOf m.op).length - 1 := by omega
          clear h1
          go_wp2_with fail
          go_meet
          case rel => exact ⟨by rw [H1.out], rfl⟩
      obtain ⟨rfl, rfl⟩ := hcut
      clear HLAST
      go_wp2_with fail
      refine (of_any (lastF m.op) false _).mono ?_
      rintro e w2 ⟨rfl, hb2⟩
      rw [ofBytes_eq]
      have hI2 := HI.out.below hb2
      have hR2 := HR.out.below hb2
      have hG2 := HG.out.below hb2
      have hA2 := HAR.out.below hb2
      have hB2 := below_step HB.out hb2
      clear i0 i1 i2 i3 i4 i5 i6 i7 iz g0 g1 g2 g3 g4 g5 g6 g7 gz
      obtain ⟨i0, i1, i2, i3, i4, i5, i6, i7, iz⟩ := hI2.cells
      obtain ⟨g0, g1, g2, g3, g4, g5, g6, g7, gz⟩ := hG2.cells
      have HI2 := Lib.hid hI2
      have HR2 := Lib.hid hR2
      have HG2 := Lib.hid hG2
      have HA2 := Lib.hid hA2
      have HB2 := Lib.hid hB2
      generalize hgp : partP m (fieldsOf m.op).length = g at HG2 HA2 HEND hop g0 g1 g2 g3 g4 g5 g6 g7
      have hne : ∀ ad, A = some ad → ad.block ≠ w.heap.size + 1 + 1 := fun ad ha => by have := HF.out ad ha; omega
      have HNE := Lib.hid hne
      clear hb2 hI2 hR2 hG2 hA2 hB2 HI HR HG HAR HB hgp hne
      have hfld := field_number
      have hcA : (decide (0 < ofBytes (lastF m.op)) = false ∧ ¬ (0 < ofBytes (lastF m.op) ∧ lastF m.op ≠ 116)) ∨ (decide (0 < ofBytes (lastF m.op)) = true ∧ (((lastF m.op).toNat : Int) != 116) = false ∧ ¬ (0 < ofBytes (lastF m.op) ∧ lastF m.op ≠ 116)) ∨ (decide (0 < ofBytes (lastF m.op)) = true ∧ (((lastF m.op).toNat : Int) != 116) = true ∧ (0 < ofBytes (lastF m.op) ∧ lastF m.op ≠ 116)) := by
        by_cases h1 : 0 < ofBytes (lastF m.op)
        · by_cases h2 : lastF m.op = 116
          · exact .inr (.inl ⟨by simpa using h1, by rw [h2]; rfl, fun h => h.2 h2⟩)
          · have h3 : (((lastF m.op).toNat : Int) == 116) = false := u8_ne rfl h2
            exact .inr (.inr ⟨by simpa using h1, by rw [bne, h3]; rfl, h1, h2⟩)
        · exact .inl ⟨by simpa using h1, fun h => h1 h.1⟩
      have hcB : ((((lastF m.op).toNat : Int) == 98) = true ∧ (lastF m.op = 98 ∨ m.op = 29)) ∨ ((((lastF m.op).toNat : Int) == 98) = false ∧ (m.op == 29) = true ∧ (lastF m.op = 98 ∨ m.op = 29)) ∨ ((((lastF m.op).toNat : Int) == 98) = false ∧ (m.op == 29) = false ∧ ¬ (lastF m.op = 98 ∨ m.op = 29)) := by
        by_cases h1 : lastF m.op = 98
        · exact .inl ⟨by rw [h1]; rfl, .inl h1⟩
        · by_cases h2 : m.op = 29
          · exact .inr (.inl ⟨u8_ne rfl h1, by simpa using h2, .inr h2⟩)
          · exact .inr (.inr ⟨u8_ne rfl h1, by simpa using h2, fun h => by rcases h with h | h; exact h1 h; exact h2 h⟩)
      rcases hcA with ⟨q1, hA⟩ | ⟨q1, q2, hA⟩ | ⟨q1, q2, hA⟩
      · skip
        rcases hcB with ⟨q3, hB⟩ | ⟨q3, q4, hB⟩ | ⟨q3, q4, hB⟩
        · have hpl : plainM m = { (g : M) with e := m.e } := by rw [← HEND.out, if_pos hB, if_neg hA]
          have HPL := Lib.hid hpl
          clear hA hB hpl
          go_upto_region 27 with (fail)
          have hg9 : MachAt (w2.setCell ⟨w.heap.size + 1 + 1, 2, none⟩ (.int .i64 m.e)) (w.heap.size + 1 + 1) (plainM m) A c := by rw [HPL.out]; exact (set_cells HG2.out 2 (.int .i64 m.e))
          have ha9 : ArgsIn (w2.setCell ⟨w.heap.size + 1 + 1, 2, none⟩ (.int .i64 m.e)) (plainM m) A c := by rw [HPL.out]; exact ((HA2.out.set HNE.out 2 (.int .i64 m.e))).same rfl
          have hr9 : MachAt (w2.setCell ⟨w.heap.size + 1 + 1, 2, none⟩ (.int .i64 m.e)) (w.heap.size + 1) zeroM none 0 := (set_other HR2.out (by omega) 2 (.int .i64 m.e))
          have hb9 : Below w.heap.size w (w2.setCell ⟨w.heap.size + 1 + 1, 2, none⟩ (.int .i64 m.e)) := (below_set HB2.out (by omega) 2 (.int .i64 m.e))
          clear HPL HG2 HA2 HR2 HB2 HI2 i0 i1 i2 i3 i4 i5 i6 i7 iz g0 g1 g2 g3 g4 g5 g6 g7 gz
          generalize (w2.setCell ⟨w.heap.size + 1 + 1, 2, none⟩ (.int .i64 m.e)) = W9 at hg9 ha9 hr9 hb9 ⊢
          obtain ⟨k0, k1, k2, k3, k4, k5, k6, k7, kz⟩ := hg9.cells
          obtain ⟨r0, r1, r2, r3, r4, r5, r6, r7, rz⟩ := hr9.cells
          have HA9 := Lib.hid ha9
          have HB9 := Lib.hid hb9
          have HR9 := Lib.hid hr9
          clear hg9 ha9 hb9 hr9 HEND
          go_wp2_with fail
          have hne1 : ∀ ad, A = some ad → ad.block ≠ w.heap.size + 1 := fun ad ha => by have := HF.out ad ha; omega
          have h8 := set8_grown W9 (w.heap.size + 1) (plainM m) A c
          have ha8 := HA9.out.grown h8 hne1
          have hb8 := grown_low HB9.out h8 (by omega)
          unfold set8 at ha8 hb8
          refine bodyPost_ret (v := .agg #[.int .i64 (plainM m).op, .int .i64 (plainM m).d, .int .i64 (plainM m).e, .int .i64 (plainM m).a, .int .i64 (plainM m).b, .int .i64 (plainM m).c, .int .i32 (plainM m).imm, .slice A (plainM m).args.length c]) (by simp [results, Tryd.results27, go_sem, r0, r1, r2, r3, r4, r5, r6, r7]) rfl ?_
          exact ⟨A, c, rfl, hb8, ha8, fun ad ha => by have := HF.out ad ha; omega⟩
        · have hpl : plainM m = { (g : M) with e := m.e } := by rw [← HEND.out, if_pos hB, if_neg hA]
          have HPL := Lib.hid hpl
          clear hA hB hpl
          go_upto_region 27 with (fail)
          have hg9 : MachAt (w2.setCell ⟨w.heap.size + 1 + 1, 2, none⟩ (.int .i64 m.e)) (w.heap.size + 1 + 1) (plainM m) A c := by rw [HPL.out]; exact (set_cells HG2.out 2 (.int .i64 m.e))
          have ha9 : ArgsIn (w2.setCell ⟨w.heap.size + 1 + 1, 2, none⟩ (.int .i64 m.e)) (plainM m) A c := by rw [HPL.out]; exact ((HA2.out.set HNE.out 2 (.int .i64 m.e))).same rfl
          have hr9 : MachAt (w2.setCell ⟨w.heap.size + 1 + 1, 2, none⟩ (.int .i64 m.e)) (w.heap.size + 1) zeroM none 0 := (set_other HR2.out (by omega) 2 (.int .i64 m.e))
          have hb9 : Below w.heap.size w (w2.setCell ⟨w.heap.size + 1 + 1, 2, none⟩ (.int .i64 m.e)) := (below_set HB2.out (by omega) 2 (.int .i64 m.e))
          clear HPL HG2 HA2 HR2 HB2 HI2 i0 i1 i2 i3 i4 i5 i6 i7 iz g0 g1 g2 g3 g4 g5 g6 g7 gz
          generalize (w2.setCell ⟨w.heap.size + 1 + 1, 2, none⟩ (.int .i64 m.e)) = W9 at hg9 ha9 hr9 hb9 ⊢
          obtain ⟨k0, k1, k2, k3, k4, k5, k6, k7, kz⟩ := hg9.cells
          obtain ⟨r0, r1, r2, r3, r4, r5, r6, r7, rz⟩ := hr9.cells
          have HA9 := Lib.hid ha9
          have HB9 := Lib.hid hb9
          have HR9 := Lib.hid hr9
          clear hg9 ha9 hb9 hr9 HEND
          go_wp2_with fail
          have hne1 : ∀ ad, A = some ad → ad.block ≠ w.heap.size + 1 := fun ad ha => by have := HF.out ad ha; omega
          have h8 := set8_grown W9 (w.heap.size + 1) (plainM m) A c
          have ha8 := HA9.out.grown h8 hne1
          have hb8 := grown_low HB9.out h8 (by omega)
          unfold set8 at ha8 hb8
          refine bodyPost_ret (v := .agg #[.int .i64 (plainM m).op, .int .i64 (plainM m).d, .int .i64 (plainM m).e, .int .i64 (plainM m).a, .int .i64 (plainM m).b, .int .i64 (plainM m).c, .int .i32 (plainM m).imm, .slice A (plainM m).args.length c]) (by simp [results, Tryd.results27, go_sem, r0, r1, r2, r3, r4, r5, r6, r7]) rfl ?_
          exact ⟨A, c, rfl, hb8, ha8, fun ad ha => by have := HF.out ad ha; omega⟩
        · have hpl : plainM m = g := by rw [← HEND.out, if_neg hB, if_neg hA]
          have HPL := Lib.hid hpl
          clear hA hB hpl
          go_upto_region 27 with (fail)
          have hg9 : MachAt w2 (w.heap.size + 1 + 1) (plainM m) A c := by rw [HPL.out]; exact HG2.out
          have ha9 : ArgsIn w2 (plainM m) A c := by rw [HPL.out]; exact (HA2.out).same rfl
          have hr9 : MachAt w2 (w.heap.size + 1) zeroM none 0 := HR2.out
          have hb9 : Below w.heap.size w w2 := HB2.out
          clear HPL HG2 HA2 HR2 HB2 HI2 i0 i1 i2 i3 i4 i5 i6 i7 iz g0 g1 g2 g3 g4 g5 g6 g7 gz
          generalize w2 = W9 at hg9 ha9 hr9 hb9 ⊢
          obtain ⟨k0, k1, k2, k3, k4, k5, k6, k7, kz⟩ := hg9.cells
          obtain ⟨r0, r1, r2, r3, r4, r5, r6, r7, rz⟩ := hr9.cells
          have HA9 := Lib.hid ha9
          have HB9 := Lib.hid hb9
          have HR9 := Lib.hid hr9
          clear hg9 ha9 hb9 hr9 HEND
          go_wp2_with fail
          have hne1 : ∀ ad, A = some ad → ad.block ≠ w.heap.size + 1 := fun ad ha => by have := HF.out ad ha; omega
          have h8 := set8_grown W9 (w.heap.size + 1) (plainM m) A c
          have ha8 := HA9.out.grown h8 hne1
          have hb8 := grown_low HB9.out h8 (by omega)
          unfold set8 at ha8 hb8
          refine bodyPost_ret (v := .agg #[.int .i64 (plainM m).op, .int .i64 (plainM m).d, .int .i64 (plainM m).e, .int .i64 (plainM m).a, .int .i64 (plainM m).b, .int .i64 (plainM m).c, .int .i32 (plainM m).imm, .slice A (plainM m).args.length c]) (by simp [results, Tryd.results27, go_sem, r0, r1, r2, r3, r4, r5, r6, r7]) rfl ?_
          exact ⟨A, c, rfl, hb8, ha8, fun ad ha => by have := HF.out ad ha; omega⟩
      · skip
        rcases hcB with ⟨q3, hB⟩ | ⟨q3, q4, hB⟩ | ⟨q3, q4, hB⟩
        · have hpl : plainM m = { (g : M) with e := m.e } := by rw [← HEND.out, if_pos hB, if_neg hA]
          have HPL := Lib.hid hpl
          clear hA hB hpl
          go_upto_region 27 with (fail)
          have hg9 : MachAt (w2.setCell ⟨w.heap.size + 1 + 1, 2, none⟩ (.int .i64 m.e)) (w.heap.size + 1 + 1) (plainM m) A c := by rw [HPL.out]; exact (set_cells HG2.out 2 (.int .i64 m.e))
          have ha9 : ArgsIn (w2.setCell ⟨w.heap.size + 1 + 1, 2, none⟩ (.int .i64 m.e)) (plainM m) A c := by rw [HPL.out]; exact ((HA2.out.set HNE.out 2 (.int .i64 m.e))).same rfl
          have hr9 : MachAt (w2.setCell ⟨w.heap.size + 1 + 1, 2, none⟩ (.int .i64 m.e)) (w.heap.size + 1) zeroM none 0 := (set_other HR2.out (by omega) 2 (.int .i64 m.e))
          have hb9 : Below w.heap.size w (w2.setCell ⟨w.heap.size + 1 + 1, 2, none⟩ (.int .i64 m.e)) := (below_set HB2.out (by omega) 2 (.int .i64 m.e))
          clear HPL HG2 HA2 HR2 HB2 HI2 i0 i1 i2 i3 i4 i5 i6 i7 iz g0 g1 g2 g3 g4 g5 g6 g7 gz
          generalize (w2.setCell ⟨w.heap.size + 1 + 1, 2, none⟩ (.int .i64 m.e)) = W9 at hg9 ha9 hr9 hb9 ⊢
          obtain ⟨k0, k1, k2, k3, k4, k5, k6, k7, kz⟩ := hg9.cells
          obtain ⟨r0, r1, r2, r3, r4, r5, r6, r7, rz⟩ := hr9.cells
          have HA9 := Lib.hid ha9
          have HB9 := Lib.hid hb9
          have HR9 := Lib.hid hr9
          clear hg9 ha9 hb9 hr9 HEND
          go_wp2_with fail
          have hne1 : ∀ ad, A = some ad → ad.block ≠ w.heap.size + 1 := fun ad ha => by have := HF.out ad ha; omega
          have h8 := set8_grown W9 (w.heap.size + 1) (plainM m) A c
          have ha8 := HA9.out.grown h8 hne1
          have hb8 := grown_low HB9.out h8 (by omega)
          unfold set8 at ha8 hb8
          refine bodyPost_ret (v := .agg #[.int .i64 (plainM m).op, .int .i64 (plainM m).d, .int .i64 (plainM m).e, .int .i64 (plainM m).a, .int .i64 (plainM m).b, .int .i64 (plainM m).c, .int .i32 (plainM m).imm, .slice A (plainM m).args.length c]) (by simp [results, Tryd.results27, go_sem, r0, r1, r2, r3, r4, r5, r6, r7]) rfl ?_
          exact ⟨A, c, rfl, hb8, ha8, fun ad ha => by have := HF.out ad ha; omega⟩
        · have hpl : plainM m = { (g : M) with e := m.e } := by rw [← HEND.out, if_pos hB, if_neg hA]
          have HPL := Lib.hid hpl
          clear hA hB hpl
          go_upto_region 27 with (fail)
          have hg9 : MachAt (w2.setCell ⟨w.heap.size + 1 + 1, 2, none⟩ (.int .i64 m.e)) (w.heap.size + 1 + 1) (plainM m) A c := by rw [HPL.out]; exact (set_cells HG2.out 2 (.int .i64 m.e))
          have ha9 : ArgsIn (w2.setCell ⟨w.heap.size + 1 + 1, 2, none⟩ (.int .i64 m.e)) (plainM m) A c := by rw [HPL.out]; exact ((HA2.out.set HNE.out 2 (.int .i64 m.e))).same rfl
          have hr9 : MachAt (w2.setCell ⟨w.heap.size + 1 + 1, 2, none⟩ (.int .i64 m.e)) (w.heap.size + 1) zeroM none 0 := (set_other HR2.out (by omega) 2 (.int .i64 m.e))
          have hb9 : Below w.heap.size w (w2.setCell ⟨w.heap.size + 1 + 1, 2, none⟩ (.int .i64 m.e)) := (below_set HB2.out (by omega) 2 (.int .i64 m.e))
          clear HPL HG2 HA2 HR2 HB2 HI2 i0 i1 i2 i3 i4 i5 i6 i7 iz g0 g1 g2 g3 g4 g5 g6 g7 gz
          generalize (w2.setCell ⟨w.heap.size + 1 + 1, 2, none⟩ (.int .i64 m.e)) = W9 at hg9 ha9 hr9 hb9 ⊢
          obtain ⟨k0, k1, k2, k3, k4, k5, k6, k7, kz⟩ := hg9.cells
          obtain ⟨r0, r1, r2, r3, r4, r5, r6, r7, rz⟩ := hr9.cells
          have HA9 := Lib.hid ha9
          have HB9 := Lib.hid hb9
          have HR9 := Lib.hid hr9
          clear hg9 ha9 hb9 hr9 HEND
          go_wp2_with fail
          have hne1 : ∀ ad, A = some ad → ad.block ≠ w.heap.size + 1 := fun ad ha => by have := HF.out ad ha; omega
          have h8 := set8_grown W9 (w.heap.size + 1) (plainM m) A c
          have ha8 := HA9.out.grown h8 hne1
          have hb8 := grown_low HB9.out h8 (by omega)
          unfold set8 at ha8 hb8
          refine bodyPost_ret (v := .agg #[.int .i64 (plainM m).op, .int .i64 (plainM m).d, .int .i64 (plainM m).e, .int .i64 (plainM m).a, .int .i64 (plainM m).b, .int .i64 (plainM m).c, .int .i32 (plainM m).imm, .slice A (plainM m).args.length c]) (by simp [results, Tryd.results27, go_sem, r0, r1, r2, r3, r4, r5, r6, r7]) rfl ?_
          exact ⟨A, c, rfl, hb8, ha8, fun ad ha => by have := HF.out ad ha; omega⟩
        · have hpl : plainM m = g := by rw [← HEND.out, if_neg hB, if_neg hA]
          have HPL := Lib.hid hpl
          clear hA hB hpl
          go_upto_region 27 with (fail)
          have hg9 : MachAt w2 (w.heap.size + 1 + 1) (plainM m) A c := by rw [HPL.out]; exact HG2.out
          have ha9 : ArgsIn w2 (plainM m) A c := by rw [HPL.out]; exact (HA2.out).same rfl
          have hr9 : MachAt w2 (w.heap.size + 1) zeroM none 0 := HR2.out
          have hb9 : Below w.heap.size w w2 := HB2.out
          clear HPL HG2 HA2 HR2 HB2 HI2 i0 i1 i2 i3 i4 i5 i6 i7 iz g0 g1 g2 g3 g4 g5 g6 g7 gz
          generalize w2 = W9 at hg9 ha9 hr9 hb9 ⊢
          obtain ⟨k0, k1, k2, k3, k4, k5, k6, k7, kz⟩ := hg9.cells
          obtain ⟨r0, r1, r2, r3, r4, r5, r6, r7, rz⟩ := hr9.cells
          have HA9 := Lib.hid ha9
          have HB9 := Lib.hid hb9
          have HR9 := Lib.hid hr9
          clear hg9 ha9 hb9 hr9 HEND
          go_wp2_with fail
          have hne1 : ∀ ad, A = some ad → ad.block ≠ w.heap.size + 1 := fun ad ha => by have := HF.out ad ha; omega
          have h8 := set8_grown W9 (w.heap.size + 1) (plainM m) A c
          have ha8 := HA9.out.grown h8 hne1
          have hb8 := grown_low HB9.out h8 (by omega)
          unfold set8 at ha8 hb8
          refine bodyPost_ret (v := .agg #[.int .i64 (plainM m).op, .int .i64 (plainM m).d, .int .i64 (plainM m).e, .int .i64 (plainM m).a, .int .i64 (plainM m).b, .int .i64 (plainM m).c, .int .i32 (plainM m).imm, .slice A (plainM m).args.length c]) (by simp [results, Tryd.results27, go_sem, r0, r1, r2, r3, r4, r5, r6, r7]) rfl ?_
          exact ⟨A, c, rfl, hb8, ha8, fun ad ha => by have := HF.out ad ha; omega⟩
      · skip
        rcases hcB with ⟨q3, hB⟩ | ⟨q3, q4, hB⟩ | ⟨q3, q4, hB⟩
        · have hpl : plainM m = { ({ g with imm := m.imm } : M) with e := m.e } := by rw [← HEND.out, if_pos hB, if_pos hA]
          have HPL := Lib.hid hpl
          clear hA hB hpl
          go_upto_region 27 with (fail)
          have hg9 : MachAt ((w2.setCell ⟨w.heap.size + 1 + 1, 6, none⟩ (.int .i32 m.imm)).setCell ⟨w.heap.size + 1 + 1, 2, none⟩ (.int .i64 m.e)) (w.heap.size + 1 + 1) (plainM m) A c := by rw [HPL.out]; exact (set_cells (set_cells HG2.out 6 (.int .i32 m.imm)) 2 (.int .i64 m.e))
          have ha9 : ArgsIn ((w2.setCell ⟨w.heap.size + 1 + 1, 6, none⟩ (.int .i32 m.imm)).setCell ⟨w.heap.size + 1 + 1, 2, none⟩ (.int .i64 m.e)) (plainM m) A c := by rw [HPL.out]; exact (((HA2.out.set HNE.out 6 (.int .i32 m.imm)).set HNE.out 2 (.int .i64 m.e))).same rfl
          have hr9 : MachAt ((w2.setCell ⟨w.heap.size + 1 + 1, 6, none⟩ (.int .i32 m.imm)).setCell ⟨w.heap.size + 1 + 1, 2, none⟩ (.int .i64 m.e)) (w.heap.size + 1) zeroM none 0 := (set_other (set_other HR2.out (by omega) 6 (.int .i32 m.imm)) (by omega) 2 (.int .i64 m.e))
          have hb9 : Below w.heap.size w ((w2.setCell ⟨w.heap.size + 1 + 1, 6, none⟩ (.int .i32 m.imm)).setCell ⟨w.heap.size + 1 + 1, 2, none⟩ (.int .i64 m.e)) := (below_set (below_set HB2.out (by omega) 6 (.int .i32 m.imm)) (by omega) 2 (.int .i64 m.e))
          clear HPL HG2 HA2 HR2 HB2 HI2 i0 i1 i2 i3 i4 i5 i6 i7 iz g0 g1 g2 g3 g4 g5 g6 g7 gz
          generalize ((w2.setCell ⟨w.heap.size + 1 + 1, 6, none⟩ (.int .i32 m.imm)).setCell ⟨w.heap.size + 1 + 1, 2, none⟩ (.int .i64 m.e)) = W9 at hg9 ha9 hr9 hb9 ⊢
          obtain ⟨k0, k1, k2, k3, k4, k5, k6, k7, kz⟩ := hg9.cells
          obtain ⟨r0, r1, r2, r3, r4, r5, r6, r7, rz⟩ := hr9.cells
          have HA9 := Lib.hid ha9
          have HB9 := Lib.hid hb9
          have HR9 := Lib.hid hr9
          clear hg9 ha9 hb9 hr9 HEND
          go_wp2_with fail
          have hne1 : ∀ ad, A = some ad → ad.block ≠ w.heap.size + 1 := fun ad ha => by have := HF.out ad ha; omega
          have h8 := set8_grown W9 (w.heap.size + 1) (plainM m) A c
          have ha8 := HA9.out.grown h8 hne1
          have hb8 := grown_low HB9.out h8 (by omega)
          unfold set8 at ha8 hb8
          refine bodyPost_ret (v := .agg #[.int .i64 (plainM m).op, .int .i64 (plainM m).d, .int .i64 (plainM m).e, .int .i64 (plainM m).a, .int .i64 (plainM m).b, .int .i64 (plainM m).c, .int .i32 (plainM m).imm, .slice A (plainM m).args.length c]) (by simp [results, Tryd.results27, go_sem, r0, r1, r2, r3, r4, r5, r6, r7]) rfl ?_
          exact ⟨A, c, rfl, hb8, ha8, fun ad ha => by have := HF.out ad ha; omega⟩
        · have hpl : plainM m = { ({ g with imm := m.imm } : M) with e := m.e } := by rw [← HEND.out, if_pos hB, if_pos hA]
          have HPL := Lib.hid hpl
          clear hA hB hpl
          go_upto_region 27 with (fail)
          have hg9 : MachAt ((w2.setCell ⟨w.heap.size + 1 + 1, 6, none⟩ (.int .i32 m.imm)).setCell ⟨w.heap.size + 1 + 1, 2, none⟩ (.int .i64 m.e)) (w.heap.size + 1 + 1) (plainM m) A c := by rw [HPL.out]; exact (set_cells (set_cells HG2.out 6 (.int .i32 m.imm)) 2 (.int .i64 m.e))
          have ha9 : ArgsIn ((w2.setCell ⟨w.heap.size + 1 + 1, 6, none⟩ (.int .i32 m.imm)).setCell ⟨w.heap.size + 1 + 1, 2, none⟩ (.int .i64 m.e)) (plainM m) A c := by rw [HPL.out]; exact (((HA2.out.set HNE.out 6 (.int .i32 m.imm)).set HNE.out 2 (.int .i64 m.e))).same rfl
          have hr9 : MachAt ((w2.setCell ⟨w.heap.size + 1 + 1, 6, none⟩ (.int .i32 m.imm)).setCell ⟨w.heap.size + 1 + 1, 2, none⟩ (.int .i64 m.e)) (w.heap.size + 1) zeroM none 0 := (set_other (set_other HR2.out (by omega) 6 (.int .i32 m.imm)) (by omega) 2 (.int .i64 m.e))
          have hb9 : Below w.heap.size w ((w2.setCell ⟨w.heap.size + 1 + 1, 6, none⟩ (.int .i32 m.imm)).setCell ⟨w.heap.size + 1 + 1, 2, none⟩ (.int .i64 m.e)) := (below_set (below_set HB2.out (by omega) 6 (.int .i32 m.imm)) (by omega) 2 (.int .i64 m.e))
          clear HPL HG2 HA2 HR2 HB2 HI2 i0 i1 i2 i3 i4 i5 i6 i7 iz g0 g1 g2 g3 g4 g5 g6 g7 gz
          generalize ((w2.setCell ⟨w.heap.size + 1 + 1, 6, none⟩ (.int .i32 m.imm)).setCell ⟨w.heap.size + 1 + 1, 2, none⟩ (.int .i64 m.e)) = W9 at hg9 ha9 hr9 hb9 ⊢
          obtain ⟨k0, k1, k2, k3, k4, k5, k6, k7, kz⟩ := hg9.cells
          obtain ⟨r0, r1, r2, r3, r4, r5, r6, r7, rz⟩ := hr9.cells
          have HA9 := Lib.hid ha9
          have HB9 := Lib.hid hb9
          have HR9 := Lib.hid hr9
          clear hg9 ha9 hb9 hr9 HEND
          go_wp2_with fail
          have hne1 : ∀ ad, A = some ad → ad.block ≠ w.heap.size + 1 := fun ad ha => by have := HF.out ad ha; omega
          have h8 := set8_grown W9 (w.heap.size + 1) (plainM m) A c
          have ha8 := HA9.out.grown h8 hne1
          have hb8 := grown_low HB9.out h8 (by omega)
          unfold set8 at ha8 hb8
          refine bodyPost_ret (v := .agg #[.int .i64 (plainM m).op, .int .i64 (plainM m).d, .int .i64 (plainM m).e, .int .i64 (plainM m).a, .int .i64 (plainM m).b, .int .i64 (plainM m).c, .int .i32 (plainM m).imm, .slice A (plainM m).args.length c]) (by simp [results, Tryd.results27, go_sem, r0, r1, r2, r3, r4, r5, r6, r7]) rfl ?_
          exact ⟨A, c, rfl, hb8, ha8, fun ad ha => by have := HF.out ad ha; omega⟩
        · have hpl : plainM m = { g with imm := m.imm } := by rw [← HEND.out, if_neg hB, if_pos hA]
          have HPL := Lib.hid hpl
          clear hA hB hpl
          go_upto_region 27 with (fail)
          have hg9 : MachAt (w2.setCell ⟨w.heap.size + 1 + 1, 6, none⟩ (.int .i32 m.imm)) (w.heap.size + 1 + 1) (plainM m) A c := by rw [HPL.out]; exact (set_cells HG2.out 6 (.int .i32 m.imm))
          have ha9 : ArgsIn (w2.setCell ⟨w.heap.size + 1 + 1, 6, none⟩ (.int .i32 m.imm)) (plainM m) A c := by rw [HPL.out]; exact ((HA2.out.set HNE.out 6 (.int .i32 m.imm))).same rfl
          have hr9 : MachAt (w2.setCell ⟨w.heap.size + 1 + 1, 6, none⟩ (.int .i32 m.imm)) (w.heap.size + 1) zeroM none 0 := (set_other HR2.out (by omega) 6 (.int .i32 m.imm))
          have hb9 : Below w.heap.size w (w2.setCell ⟨w.heap.size + 1 + 1, 6, none⟩ (.int .i32 m.imm)) := (below_set HB2.out (by omega) 6 (.int .i32 m.imm))
          clear HPL HG2 HA2 HR2 HB2 HI2 i0 i1 i2 i3 i4 i5 i6 i7 iz g0 g1 g2 g3 g4 g5 g6 g7 gz
          generalize (w2.setCell ⟨w.heap.size + 1 + 1, 6, none⟩ (.int .i32 m.imm)) = W9 at hg9 ha9 hr9 hb9 ⊢
          obtain ⟨k0, k1, k2, k3, k4, k5, k6, k7, kz⟩ := hg9.cells
          obtain ⟨r0, r1, r2, r3, r4, r5, r6, r7, rz⟩ := hr9.cells
          have HA9 := Lib.hid ha9
          have HB9 := Lib.hid hb9
          have HR9 := Lib.hid hr9
          clear hg9 ha9 hb9 hr9 HEND
          go_wp2_with fail
          have hne1 : ∀ ad, A = some ad → ad.block ≠ w.heap.size + 1 := fun ad ha => by have := HF.out ad ha; omega
          have h8 := set8_grown W9 (w.heap.size + 1) (plainM m) A c
          have ha8 := HA9.out.grown h8 hne1
          have hb8 := grown_low HB9.out h8 (by omega)
          unfold set8 at ha8 hb8
          refine bodyPost_ret (v := .agg #[.int .i64 (plainM m).op, .int .i64 (plainM m).d, .int .i64 (plainM m).e, .int .i64 (plainM m).a, .int .i64 (plainM m).b, .int .i64 (plainM m).c, .int .i32 (plainM m).imm, .slice A (plainM m).args.length c]) (by simp [results, Tryd.results27, go_sem, r0, r1, r2, r3, r4, r5, r6, r7]) rfl ?_
          exact ⟨A, c, rfl, hb8, ha8, fun ad ha => by have := HF.out ad ha; omega⟩
end Go.Proofs.YtmoplcchiadlpaaDoor.Jc
