/- code.Text: an instruction as a line. -/
import Derived.Test.YtmoplcchiadlpaaDoorJcSize
import Derived.Test.YtmoplcchiadlpaaDoorJcApp
import Derived.Lib.AppendIntMem
set_option linter.unusedVariables false
set_option linter.unusedSimpArgs false
namespace Go.Proofs.YtmoplcchiadlpaaDoor.Jc
open Go Go.RowKit Go.ChangeMaps Go.Proofs.YtmoplcchiadlpaaDoorW.PrintWords

def numTexts (m : M) : List (List UInt8) :=
  if numF m.op = 0 then []
  else if numF m.op = 110 then [Lib.itoa m.args.length, Lib.itoa m.imm]
  else if numF m.op = 101 then (if m.e = 1 then [[114, 48]] else [])
  else if numF m.op = 116 then m.args.map Lib.itoa
  else [Lib.itoa m.imm]
def textParts (m : M) : List (List UInt8) := (nameOf m.op ++ if farOf m then [46, 108] else []) :: ((valsM m).map (fun x => 114 :: Lib.itoa x) ++ numTexts m)
/-- P18.4. -/
def textM (m : M) : List UInt8 := if shapeOk m = false then [] else Lib.join (textParts m) [32]

theorem itoa_any (n : Int) (h : In64 n) (w : World) (htab : Lib.TabIs Tryd.prog w "internal/strconv.uint64pow10" .u64 Lib.pow10Tab) :
    Calls Tryd.prog 53 #[.int .i64 n] w fun e w' => e = .returned (.string (bs (Lib.itoa n))) ∧ Below w.heap.size w w' :=
  (Tryd.strconv_Itoa n h.1 h.2 w htab).mono fun e w' ⟨h1, k, os, h2⟩ => ⟨h1, by
    subst h2
    exact Lib.below_grow _ w (Nat.le_refl _) k os⟩
theorem reg_in (m : M) (h : InR m) (x : UInt8) : In64 (regVal m x) := by
  unfold regVal
  split
  · exact h.d
  split
  · exact h.a
  split
  · exact h.b
  · exact h.c
theorem name_short (op : Int) : (nameOf op).length ≤ 10 := by
  have := info_all (fun _ n _ _ => decide (n.length ≤ 10)) (fun _ => by decide) (by decide +kernel) op
  simpa using this
theorem clip_any (g n c : Nat) (hc : n ≤ c) (hm : c ≤ 9223372036854775807) (w : World) :
    Calls Tryd.prog 55 #[.slice (some ⟨g, 0, none⟩) n c] w fun e w' => e = .returned (.slice (some ⟨g, 0, none⟩) n n) ∧ w = w' := by
  go_enter Tryd.func55, Tryd.ntmps55
  go_wp2_with fail
  go_ret
  exact ⟨rfl, rfl⟩
theorem parts_small (m : M) (hin : InR m) (hs : shapeOk m = true) : (∀ p ∈ textParts m, p.length ≤ 30) ∧ (textParts m).length ≤ 100 := by
  have hI : ∀ n : Int, In64 n → (Lib.itoa n).length ≤ 21 := fun n h => itoa_le n h
  have hn := name_short m.op
  have hr := regs_short m.op
  have himm : In64 m.imm := ⟨by have := hin.imm; omega, by have := hin.imm; omega⟩
  have hnum : (∀ p ∈ numTexts m, p.length ≤ 30) ∧ (numTexts m).length ≤ 90 := by
    unfold numTexts
    split
    · exact ⟨by simp, by simp⟩
    split
    · refine ⟨fun p hp => ?_, by simp⟩
      simp only [List.mem_cons, List.not_mem_nil, or_false] at hp
      rcases hp with rfl | rfl
      · have := hI m.args.length ⟨by omega, by have := hin.few; omega⟩; omega
      · have := hI _ himm; omega
    split
    · split
      · exact ⟨by simp, by simp⟩
      · exact ⟨by simp, by simp⟩
    split
    · rename_i h
      refine ⟨fun p hp => ?_, by have := shape_116 m hs h; simp; omega⟩
      obtain ⟨x, hx, rfl⟩ := List.mem_map.1 hp
      have := hI x (hin.args x hx); omega
    · refine ⟨fun p hp => ?_, by simp⟩
      simp only [List.mem_cons, List.not_mem_nil, or_false] at hp
      subst hp
      have := hI _ himm; omega
  unfold textParts
  refine ⟨fun p hp => ?_, ?_⟩
  · rcases List.mem_cons.1 hp with rfl | hp
    · rw [List.length_append]
      split <;> simp <;> omega
    rcases List.mem_append.1 hp with hp | hp
    · obtain ⟨x, hx, rfl⟩ := List.mem_map.1 hp
      unfold valsM at hx
      obtain ⟨y, _, rfl⟩ := List.mem_map.1 hx
      have := hI _ (reg_in m hin y)
      simp; omega
    · exact hnum.1 p hp
  · have := hnum.2
    have := valsM_length m
    simp only [List.length_cons, List.length_append, List.length_map]
    omega
theorem take_map_snoc (l : List Int) (f : Int → List UInt8) (k : Nat) (h : k < l.length) : (l.take (k + 1)).map f = (l.take k).map f ++ [f (l.getD k 0)] := by
  rw [take_snoc l k 0 h, List.map_append]
  rfl
theorem cells_strs {w : World} {base g n k c : Nat} {l : List (List UInt8)} (h : w.ownsRow base 9 1 (.slice (some ⟨g, 0, none⟩) n c) k (strs l)) : ∀ (j : Nat) x, (l.map bs)[j]? = some x → w.cell? ⟨g, 0 + j, none⟩ = some (.string x) := by
  intro j x hx
  have := h.cells (g := g) rfl j (.string x) (by
    unfold strs
    rw [List.getElem?_map] at hx ⊢
    cases hl : l[j]? with
    | none => rw [hl] at hx; cases hx
    | some p => rw [hl] at hx; cases hx; rfl)
  have hadd : (⟨g, 0, none⟩ : Addr).add j = ⟨g, j, none⟩ := by unfold Addr.add; split <;> simp_all
  rw [hadd] at this
  rw [Nat.zero_add]
  exact this

theorem own_keep {w w1 : World} {base size n : Nat} {e : TypeId} {v : Value} {xs : List Value} (h : w.ownsRow base e size v n xs) (hb : Below w.heap.size w w1) : w1.ownsRow base e size v n xs :=
  h.kept (grown_below hb none) (by cases hv : v.ownBlock <;> simp)
theorem own_first (W : World) (p : List UInt8) : (W.alloc (.cells #[.string (bs p)] 9)).ownsRow W.heap.size 9 1 (.slice (some ⟨W.heap.size, 0, none⟩) 1 1) (strs [p]).length (strs [p]) :=
  World.ownsRow_lit (base := W.heap.size) (e := 9) (size := 1) W #[.string (bs p)] 1 (Nat.le_refl _) (by decide) rfl
def partsTo (m : M) (head : List UInt8) (k : Nat) : List (List UInt8) := head :: ((valsM m).take k).map (fun x => 114 :: Lib.itoa x)
theorem partsTo_length (m : M) (head : List UInt8) (k : Nat) : (partsTo m head k).length ≤ 5 := by
  have h1 := valsM_length m
  have h2 := regs_short m.op
  unfold partsTo
  simp only [List.length_cons, List.length_map, List.length_take]
  omega
theorem partsTo_more (m : M) (head : List UInt8) (k : Nat) (h : k < (regsF m.op).length) : partsTo m head (k + 1) = partsTo m head k ++ [114 :: Lib.itoa ((valsM m).getD k 0)] := by
  unfold partsTo
  rw [take_map_snoc _ _ _ (by rw [valsM_length]; exact h)]
  rfl
theorem parts_all (m : M) (head : List UInt8) (h : head = nameOf m.op ++ if farOf m then [46, 108] else []) (k : Nat) (hk : k = (regsF m.op).length) : textParts m = partsTo m head k ++ numTexts m := by
  unfold textParts partsTo
  rw [List.take_of_length_le (by rw [valsM_length]; omega), h]
  rfl
theorem shape_101 (m : M) (hs : shapeOk m = true) (h : numF m.op = 101) : m.e = 0 ∨ m.e = 1 := by
  have h1 : m.op = 50 := by
    have := info_all (fun op _ f _ => !((splitF f).2 == 101) || op == 50) (fun _ => rfl) (by decide +kernel) m.op
    simp [numF] at this h
    rcases this with h0 | h0
    · exact absurd h h0
    · exact h0
  unfold shapeOk at hs
  rw [if_neg (by omega), if_neg (by omega), if_pos (.inr h1)] at hs
  simp at hs
  exact hs.2
set_option maxRecDepth 100000 in
set_option maxHeartbeats 4000000 in
theorem text_any (m : M) (hin : InR m) (a : Option Addr) (c : Nat) (w : World) (har : ArgsIn w m a c) (htab : Lib.TabIs Tryd.prog w "strings.asciiSpace" .u8 Lib.asciiSpaceTab)
    (hpow : Lib.TabIs Tryd.prog w "internal/strconv.uint64pow10" .u64 Lib.pow10Tab) :
    Calls Tryd.prog 22 #[.agg (cellsM m a c)] w fun e w' => e = .returned (.string (bs (textM m))) ∧ Below w.heap.size w w' := by
  have HT := Lib.hid htab
  have HP := Lib.hid hpow
  have HR := Lib.hid har
  have HIN := Lib.hid hin
  clear har htab hpow hin
  have hshape : ∀ W : World, Below w.heap.size w W → Calls Tryd.prog 32 #[.agg (cellsM m a c)] W fun e w' => e = .returned (.tuple #[.agg #[.string (bs (nameOf m.op)), .string (bs (fieldsOf m.op))], .bool (shapeOk m)]) ∧ Below W.heap.size W w' := fun W hW =>
    shape_any m a c W (HR.out.below hW) (tabIs_below HT.out hW)
  unfold cellsM at hshape ⊢
  have HSH := Lib.hid hshape
  clear hshape
  go_enter Tryd.func22, Tryd.ntmps22
  go_wp2_with fail
  have hb0 := below_alloc (Below.refl w.heap.size w) (.cells #[.int .i64 m.op, .int .i64 m.d, .int .i64 m.e, .int .i64 m.a, .int .i64 m.b, .int .i64 m.c, .int .i32 m.imm, .slice a m.args.length c] 24)
  have hblk := alloc_at w (.cells #[.int .i64 m.op, .int .i64 m.d, .int .i64 m.e, .int .i64 m.a, .int .i64 m.b, .int .i64 m.c, .int .i32 m.imm, .slice a m.args.length c] 24)
  refine (HSH.out _ hb0).mono ?_
  have HBK := Lib.hid hblk
  have hsz := Lib.hid (alloc_size w (.cells #[.int .i64 m.op, .int .i64 m.d, .int .i64 m.e, .int .i64 m.a, .int .i64 m.b, .int .i64 m.c, .int .i32 m.imm, .slice a m.args.length c] 24))
  have hbl := Lib.hid hb0
  clear hb0 hblk
  generalize w.alloc (.cells #[.int .i64 m.op, .int .i64 m.d, .int .i64 m.e, .int .i64 m.a, .int .i64 m.b, .int .i64 m.c, .int .i32 m.imm, .slice a m.args.length c] 24) = W at HBK hsz hbl
  rintro e w1 ⟨rfl, hb1⟩
  have hB : Below w.heap.size w w1 := below_step hbl.out hb1
  have hK : w1.heap[w.heap.size]? = some (.cells #[.int .i64 m.op, .int .i64 m.d, .int .i64 m.e, .int .i64 m.a, .int .i64 m.b, .int .i64 m.c, .int .i32 m.imm, .slice a m.args.length c] 24 (0, 0)) :=
    (hb1.block _ (by have := hsz.out; omega)).trans HBK.out
  have HK1 := Lib.hid hK
  have HB := Lib.hid hB
  clear hB hb1 hK HBK hsz hbl HSH
  cases hsh : shapeOk m
  · have hs : textM m = [] := by unfold textM; rw [if_pos hsh]
    have HS := Lib.hid hs
    clear hs hsh
    go_wp2_with fail
    go_ret
    exact ⟨by rw [HS.out]; rfl, below_alloc HB.out _⟩
  · have HSK := Lib.hid hsh
    clear hsh
    go_wp2_with fail
    refine (split_any (fieldsOf m.op) (by have := fields_short m.op; omega) _).mono ?_
    rintro e w2 ⟨rfl, rfl⟩
    rw [show (splitF (fieldsOf m.op)).2 = numF m.op from rfl, show (splitF (fieldsOf m.op)).1 = regsF m.op from rfl]
    have hK2 := alloc_old (o := (.cells #[.string (bs (nameOf m.op)), .string (bs (fieldsOf m.op))] 54)) HK1.out
    have hB2 := below_alloc HB.out (.cells #[.string (bs (nameOf m.op)), .string (bs (fieldsOf m.op))] 54)
    have hN2 := alloc_at w1 (.cells #[.string (bs (nameOf m.op)), .string (bs (fieldsOf m.op))] 54)
    have hS2 := alloc_size w1 (.cells #[.string (bs (nameOf m.op)), .string (bs (fieldsOf m.op))] 54)
    generalize w1.alloc (.cells #[.string (bs (nameOf m.op)), .string (bs (fieldsOf m.op))] 54) = W2 at hK2 hB2 hN2 hS2 ⊢
    have e2 : W2.cell? ⟨w.heap.size, 2, none⟩ = some (.int .i64 m.e) := (cell_blk hK2 2).trans rfl
    have n0 : W2.cell? ⟨w1.heap.size, 0, none⟩ = some (.string (bs (nameOf m.op))) := (cell_blk hN2 0).trans rfl
    have HK2 := Lib.hid hK2
    have HB2 := Lib.hid hB2
    clear hK2 hB2 hN2 hS2 HB HK1
    obtain ⟨head, hhead⟩ : ∃ h, h = nameOf m.op ++ if farOf m then [46, 108] else [] := ⟨_, rfl⟩
    have hhl : head.length ≤ 12 := by
      have := name_short m.op
      rw [hhead, List.length_append]
      split <;> simp <;> omega
    have HHD := Lib.hid hhead
    have hfx : ∃ x, x = farOf m := ⟨_, rfl⟩
    clear hhead
    go_upto_region 6 with (fail)
    go_cut [33] (fun f w' => f = .bool (farOf m) ∧ W2 = w')
    case first =>
      rcases far_cases m with ⟨b1, b2, b3⟩ | ⟨b1, b2, b3⟩ | ⟨b1, b3⟩
      all_goals
        have B3 := Lib.hid b3
        clear b3
        go_wp2_with fail
        go_meet
        case rel => exact ⟨by rw [B3.out], rfl⟩
    obtain ⟨rfl, rfl⟩ := hcut
    go_upto_if 33 with (fail)
    go_cut [7] (fun f w' => f = .string (bs head) ∧ W2 = w')
    case first =>
      have hnl := name_short m.op
      go_wp2_with fail
      all_goals
        go_meet
        case rel => exact ⟨by rw [HHD.out]; simp [*, bs_append], rfl⟩
    obtain ⟨rfl, rfl⟩ := hcut
    have hsz : (bs (regsF m.op)).size = (regsF m.op).length := bs_size _
    have hL := regs_short m.op
    have hgt := blk_lt' HK2.out
    clear e2 n0 hfx
    go_wp2_with fail
    go_loopw [8, 40] (fun v i wr => ∃ k : Nat, i = .int .i64 (k : Int) ∧ k ≤ (regsF m.op).length ∧ Aside0 (wr.ownsRow W2.heap.size 9 1 v (strs (partsTo m head k)).length (strs (partsTo m head k))) ∧ Aside0 (Below W2.heap.size W2 wr)) (fun _ i _ => (regsF m.op).length - (intOf i).toNat)
    case atStart => exact ⟨0, rfl, by omega, ⟨own_first W2 head⟩, ⟨below_alloc (Below.refl _ _) _⟩⟩
    case round =>
      obtain ⟨k, rfl, hk, HO, HBL⟩ := hrel
      have hBW : Below w.heap.size w wr := HB2.out.trans (HBL.out.mono (by omega))
      have hKr := (HBL.out.block _ hgt).trans HK2.out
      by_cases hlt : k < (regsF m.op).length
      · have hk2 : k < (bs (regsF m.op)).size := by rw [hsz]; exact hlt
        have hx : isReg ((bs (regsF m.op))[k]'hk2) = true := regs_are m.op _ (List.getElem_mem hlt)
        have hvx : (valsM m).getD k 0 = regVal m ((bs (regsF m.op))[k]'hk2) := valsM_at m k hlt
        obtain ⟨off, hoff, hcell⟩ := reg_off m a c _ hx
        have hc1 : wr.cell? ⟨w.heap.size, off.toNat, none⟩ = some (.int .i64 (regVal m ((bs (regsF m.op))[k]'hk2))) := (cell_blk hKr _).trans hcell
        have hin := reg_in m HIN.out ((bs (regsF m.op))[k]'hk2)
        have hit := itoa_any _ hin wr (tabIs_below HP.out hBW)
        have hmore := partsTo_more m head k hlt
        rw [hvx] at hmore
        generalize regVal m ((bs (regsF m.op))[k]'hk2) = X at hc1 hin hit hmore
        have htl := itoa_le X hin
        generalize Lib.itoa X = t at hit htl hmore
        have HIT := Lib.hid hit
        have HM := Lib.hid hmore
        have hpl := partsTo_length m head k
        have hsl := strs_length (partsTo m head k)
        have HOFF := Lib.hid hoff
        have HBW := Lib.hid hBW
        clear hit hmore hoff hvx hx hcell hin hBW hKr
        go_wp2_with fail
        refine (register_at w.heap.size _ off HOFF.out _).mono ?_
        rintro e w3 ⟨rfl, rfl⟩
        go_wp2_with fail
        refine HIT.out.mono ?_
        rintro e wq ⟨rfl, hq⟩
        have hOq := own_keep HO.out hq
        have hBq := below_step HBL.out hq
        have HOq := Lib.hid hOq
        have HBq := Lib.hid hBq
        clear hOq hBq HO HBL
        go_wp2_with (at_builtin; refine app_lits W2.heap.size rfl (.tmp 43) (.tmp 52) 76 9 (.string ⟨#[]⟩) 16 rfl Tryd.underlying76 info_str rfl (by decide) _ (strs (partsTo m head k)) [_] 1 1 rfl rfl (by simp) (by simp; rfl) HOq.out HBq.out HBq.out.size (by omega) ?_; intro v1 w1 hown hB)
        go_roundw
        case rel => exact ⟨k + 1, by go_num, by omega, ⟨by rw [HM.out, strs_append]; simpa [strs, bs_append] using hown⟩, ⟨hB⟩⟩
        case measure => simp [intOf]; omega
      · obtain ⟨hall⟩ : Nonempty (textParts m = partsTo m head k ++ numTexts m) := ⟨parts_all m head HHD.out k (by omega)⟩
        have hpl := partsTo_length m head k
        have hsl := strs_length (partsTo m head k)
        have HALL := Lib.hid hall
        have e2 : wr.cell? ⟨w.heap.size, 2, none⟩ = some (.int .i64 m.e) := (cell_blk hKr 2).trans rfl
        have e6 : wr.cell? ⟨w.heap.size, 6, none⟩ = some (.int .i32 m.imm) := (cell_blk hKr 6).trans rfl
        have e7 : wr.cell? ⟨w.heap.size, 7, none⟩ = some (.slice a m.args.length c) := (cell_blk hKr 7).trans rfl
        have himm := HIN.out.imm
        have hwi : IntKind.i64.wrap m.imm = m.imm := wrap_i64 (by omega) (by omega)
        have HBW := Lib.hid hBW
        have HKR := Lib.hid hKr
        generalize hPP : partsTo m head k = parts at HO HALL hpl hsl
        clear hall hBW hKr hPP
        go_upto_block 2 with (fail)
        go_cut [8] (fun v w' => Aside0 (w'.ownsRow W2.heap.size 9 1 v (strs (textParts m)).length (strs (textParts m))) ∧ Aside0 (Below W2.heap.size W2 w'))
        case first =>
          by_cases h0 : numF m.op = 0
          · have q0 : (((numF m.op).toNat : Int) == 0) = true := by rw [h0]; rfl
            have hn : numTexts m = [] := if_pos h0
            have HN := Lib.hid hn
            clear hn h0
            go_wp2_with fail
            go_meet
            case rel => exact ⟨⟨by rw [HALL.out, HN.out, List.append_nil]; exact HO.out⟩, HBL⟩
          by_cases h1 : numF m.op = 110
          · have q0 := u8_ne (n := 0) rfl h0
            have q1 : (((numF m.op).toNat : Int) == 110) = true := by rw [h1]; rfl
            have hn : numTexts m = [Lib.itoa m.args.length, Lib.itoa m.imm] := (if_neg h0).trans (if_pos h1)
            have hfew := HIN.out.few
            have hi : ∀ (n : Int) (W : World), In64 n → Below w.heap.size w W → Calls Tryd.prog 53 #[.int .i64 n] W fun e w' => e = .returned (.string (bs (Lib.itoa n))) ∧ Below W.heap.size W w' := fun n W h hW => itoa_any n h W (tabIs_below HP.out hW)
            have hl1 : In64 (m.args.length : Int) := ⟨by omega, by omega⟩
            have hl2 : In64 m.imm := ⟨by omega, by omega⟩
            have HI := Lib.hid hi
            have HL1 := Lib.hid hl1
            have HL2 := Lib.hid hl2
            have HN := Lib.hid hn
            clear hn h0 h1 hi hl1 hl2
            go_wp2_with fail
            go_region_law (first
              | (refine step_app_lits W2.heap.size rfl (.tmp 67) (.tmp 76) 76 9 (.string ⟨#[]⟩) 16 rfl Tryd.underlying76 info_str rfl (by decide) _ (strs parts) [_, _] 2 2 rfl rfl (by simp) (by simp; exact ⟨rfl, rfl⟩) HO.out HBL.out HBL.out.size (by omega) ?_; intro v1 w1 hown hB)
              | (go_simp; go_at_call 53; refine (HI.out _ _ (by first | exact HL1.out | exact HL2.out) (by first | exact HBW.out | exact below_drewR HBW.out)).mono ?_; rintro e wp ⟨rfl, hp⟩; (have HO := Lib.hid (own_keep HO.out (by first | exact below_drewN_left hp | exact below_drew_left hp | exact hp))); (have HBL := Lib.hid (below_step HBL.out (by first | exact below_drewN_left hp | exact below_drew_left hp | exact hp))); (have HBW := Lib.hid (below_step HBW.out (by first | exact below_drewN_left hp | exact below_drew_left hp | exact hp))); (have HKR := Lib.hid ((hp.block _ (blk_lt' HKR.out)).trans HKR.out)); (have e6 : wp.cell? ⟨w.heap.size, 6, none⟩ = some (.int .i32 m.imm) := (cell_blk HKR.out 6).trans rfl); clear hp))
            all_goals
              go_wp2_with fail
              go_meet
              case rel => exact ⟨⟨by rw [HALL.out, HN.out, strs_append]; exact hown⟩, ⟨hB⟩⟩
          by_cases h2 : numF m.op = 101
          · have q0 := u8_ne (n := 0) rfl h0
            have q1 := u8_ne (n := 110) rfl h1
            have q2 : (((numF m.op).toNat : Int) == 101) = true := by rw [h2]; rfl
            have hn : numTexts m = if m.e = 1 then [[114, 48]] else [] := (if_neg h0).trans ((if_neg h1).trans (if_pos h2))
            rcases shape_101 m HSK.out h2 with he | he
            · rw [he] at e2 hn
              have e2o : ∀ o, (wr.alloc o).cell? ⟨w.heap.size, 2, none⟩ = some (.int .i64 m.e) := fun o => (cell_blk (alloc_old (o := o) HKR.out) 2).trans rfl
              rw [he] at e2o
              have HN := Lib.hid hn
              clear hn h0 h1 h2 he
              go_wp2_with (at_builtin; refine app_lits W2.heap.size rfl (.tmp 80) (.tmp 84) 76 9 (.string ⟨#[]⟩) 16 rfl Tryd.underlying76 info_str rfl (by decide) _ (strs parts) [_] 0 1 rfl rfl (by simp) (by simp; rfl) HO.out HBL.out HBL.out.size (by omega) ?_; intro v1 w1 hown hB)
              go_meet
              case rel => exact ⟨⟨by rw [HALL.out, HN.out, strs_append]; exact hown⟩, ⟨hB⟩⟩
            · rw [he] at e2 hn
              have e2o : ∀ o, (wr.alloc o).cell? ⟨w.heap.size, 2, none⟩ = some (.int .i64 m.e) := fun o => (cell_blk (alloc_old (o := o) HKR.out) 2).trans rfl
              rw [he] at e2o
              have HN := Lib.hid hn
              clear hn h0 h1 h2 he
              go_wp2_with (at_builtin; refine app_lits W2.heap.size rfl (.tmp 80) (.tmp 84) 76 9 (.string ⟨#[]⟩) 16 rfl Tryd.underlying76 info_str rfl (by decide) _ (strs parts) [_] 1 1 rfl rfl (by simp) (by simp; rfl) HO.out HBL.out HBL.out.size (by omega) ?_; intro v1 w1 hown hB)
              go_meet
              case rel => exact ⟨⟨by rw [HALL.out, HN.out, strs_append]; exact hown⟩, ⟨hB⟩⟩
          by_cases h3 : numF m.op = 116
          · have q0 := u8_ne (n := 0) rfl h0
            have q1 := u8_ne (n := 110) rfl h1
            have q2 := u8_ne (n := 101) rfl h2
            have q3 : (((numF m.op).toNat : Int) == 116) = true := by rw [h3]; rfl
            have hn : numTexts m = m.args.map Lib.itoa := (if_neg h0).trans ((if_neg h1).trans ((if_neg h2).trans (if_pos h3)))
            have h65 := shape_116 m HSK.out h3
            have HN := Lib.hid hn
            have hi : ∀ (n : Int) (W : World), In64 n → Below w.heap.size w W → Calls Tryd.prog 53 #[.int .i64 n] W fun e w' => e = .returned (.string (bs (Lib.itoa n))) ∧ Below W.heap.size W w' := fun n W h hW => itoa_any n h W (tabIs_below HP.out hW)
            have HI := Lib.hid hi
            clear hn h0 h1 h2 h3 hi
            have HO6 := Lib.hid (show wr.ownsRow W2.heap.size 9 1 _ (strs (parts ++ (m.args.take 0).map Lib.itoa)).length (strs (parts ++ (m.args.take 0).map Lib.itoa)) by simpa using HO.out)
            go_wp2_with fail
            go_loopw [8, 91] (fun v i wl => ∃ j : Nat, i = .int .i64 (j : Int) ∧ j ≤ m.args.length ∧ Aside0 (wl.ownsRow W2.heap.size 9 1 v (strs (parts ++ (m.args.take j).map Lib.itoa)).length (strs (parts ++ (m.args.take j).map Lib.itoa))) ∧ Aside0 (Below W2.heap.size W2 wl)) (fun _ i _ => m.args.length - (intOf i).toNat)
            case atStart => exact ⟨0, rfl, by omega, ⟨HO6.out⟩, HBL⟩
            case round =>
              clear HO HBL HBW HO6 e2 e6 e7 HKR
              obtain ⟨j, rfl, hj, HO, HBL⟩ := hrel
              have hBW : Below w.heap.size w wr := HB2.out.trans (HBL.out.mono (by omega))
              by_cases hlt : j < m.args.length
              · obtain ⟨ad, ha, hcs⟩ := (HR.out.below hBW).reads.2.2 (by omega)
                have hcell := hcs j hlt
                have hin : In64 (m.args.getD j 0) := HIN.out.args _ (by
                  rw [List.getD_eq_getElem?_getD, List.getElem?_eq_getElem hlt]
                  exact List.getElem_mem hlt)
                have HM := Lib.hid (take_map_snoc m.args Lib.itoa j hlt)
                have hsl : (strs (parts ++ (m.args.take j).map Lib.itoa)).length ≤ 100 := by
                  rw [strs_length, List.length_append, List.length_map, List.length_take]
                  omega
                have HBW := Lib.hid hBW
                clear hcs hBW
                subst ha
                generalize m.args.getD j 0 = X at hcell hin HM
                have HX := Lib.hid hin
                clear hin
                go_wp2_with fail
                refine (HI.out _ _ HX.out HBW.out).mono ?_
                rintro e wq ⟨rfl, hq⟩
                have HOq := Lib.hid (own_keep HO.out hq)
                have HBq := Lib.hid (below_step HBL.out hq)
                clear HO HBL hq
                go_wp2_with (at_builtin; refine app_lits W2.heap.size rfl (.tmp 95) (.tmp 98) 76 9 (.string ⟨#[]⟩) 16 rfl Tryd.underlying76 info_str rfl (by decide) _ (strs (parts ++ (m.args.take j).map Lib.itoa)) [_] 1 1 rfl rfl (by simp) (by simp; rfl) HOq.out HBq.out HBq.out.size (by omega) ?_; intro v1 w1 hown hB)
                go_roundw
                case rel => exact ⟨j + 1, by go_num, by omega, ⟨by rw [HM.out, ← List.append_assoc, strs_append]; exact hown⟩, ⟨hB⟩⟩
                case measure => simp [intOf]; omega
              · obtain rfl : j = m.args.length := by omega
                go_wp2_with fail
                go_meet
                case rel => exact ⟨⟨by rw [HALL.out, HN.out, show m.args.map Lib.itoa = (m.args.take m.args.length).map Lib.itoa by rw [List.take_length]]; exact HO.out⟩, HBL⟩
          · have q0 := u8_ne (n := 0) rfl h0
            have q1 := u8_ne (n := 110) rfl h1
            have q2 := u8_ne (n := 101) rfl h2
            have q3 := u8_ne (n := 116) rfl h3
            have hn : numTexts m = [Lib.itoa m.imm] := (if_neg h0).trans ((if_neg h1).trans ((if_neg h2).trans (if_neg h3)))
            have hi2 := fun W hW => itoa_any m.imm ⟨by omega, by omega⟩ W (tabIs_below HP.out hW)
            generalize Lib.itoa m.imm = t2 at hn hi2
            have HI2 := Lib.hid hi2
            have HN := Lib.hid hn
            clear hn h0 h1 h2 h3 hi2
            go_wp2_with fail
            refine (HI2.out _ HBW.out).mono ?_
            rintro e wp ⟨rfl, hp⟩
            have hOp := own_keep HO.out hp
            have hBp := below_step HBL.out hp
            have HOp := Lib.hid hOp
            have HBp := Lib.hid hBp
            clear hOp hBp HO HBL hp
            go_wp2_with (at_builtin; refine app_lits W2.heap.size rfl (.tmp 56) (.tmp 61) 76 9 (.string ⟨#[]⟩) 16 rfl Tryd.underlying76 info_str rfl (by decide) _ (strs parts) [_] 1 1 rfl rfl (by simp) (by simp; rfl) HOp.out HBp.out HBp.out.size (by omega) ?_; intro v1 w1 hown hB)
            go_meet
            case rel => exact ⟨⟨by rw [HALL.out, HN.out, strs_append]; exact hown⟩, ⟨hB⟩⟩
        obtain ⟨HOF, HBF⟩ := hcut
        have hps := parts_small m HIN.out HSK.out
        have hpos : 0 < (strs (textParts m)).length := by rw [strs_length]; unfold textParts; simp
        obtain ⟨g, cap, rfl, hg1, hg2⟩ := HOF.out.form hpos
        have hcap : (strs (textParts m)).length ≤ cap ∧ cap ≤ 9223372036854775807 := by
          rcases HOF.out.2 with ⟨h, _⟩ | ⟨g', cap', cur, h, _, _, h1, h2, _⟩
          · cases h
          · cases h
            exact ⟨h1, h2⟩
        have hjl : (Lib.join (textParts m) [32]).length ≤ 140737488355328 := by
          have h1 := join_le (textParts m) 30 hps.1
          have h2 := Nat.mul_le_mul_right 31 hps.2
          omega
        have hfin : textM m = Lib.join (textParts m) [32] := by unfold textM; rw [if_neg (by rw [HSK.out]; simp)]
        have hmap : ((textParts m).map bs).map (·.data.toList) = textParts m := by
          rw [List.map_map]
          exact List.map_id _
        have hJ := Tryd.strings_Join g 0 (strs (textParts m)).length ((textParts m).map bs) ⟨#[32]⟩ wc (cells_strs HOF.out) hg2 (by rw [List.length_map]; have := hps.2; omega) (by rw [List.length_map, strs_length]; exact Nat.le_refl _) (by rw [hmap]; exact hjl)
        rw [hmap, List.length_map, ← strs_length (textParts m)] at hJ
        have hBF : Below w.heap.size w wc := HB2.out.trans (HBF.out.mono (by omega))
        have HJ := Lib.hid hJ
        have HBF2 := Lib.hid hBF
        have HF := Lib.hid hfin
        have HC := Lib.hid (fun W => clip_any g (strs (textParts m)).length cap hcap.1 hcap.2 W)
        generalize (strs (textParts m)).length = n at HJ HC hcap hpos
        clear hps hjl hfin hmap hJ hBF e2 e6 e7 HO HBL HOF HBF
        go_wp2_with fail
        refine (HC.out _).mono ?_
        rintro e wx ⟨rfl, rfl⟩
        go_wp2_with fail
        refine HJ.out.mono ?_
        rintro e wx ⟨rfl, hx⟩
        go_wp2_with fail
        go_ret
        exact ⟨by rw [HF.out]; rfl, below_step HBF2.out hx⟩
end Go.Proofs.YtmoplcchiadlpaaDoor.Jc
