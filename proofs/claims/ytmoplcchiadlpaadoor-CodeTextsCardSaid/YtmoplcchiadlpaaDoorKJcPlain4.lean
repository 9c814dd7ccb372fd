/- Chapter 18 in plain Lean: an instruction's text says it, but for what its Op has not. -/
import Derived.Test.YtmoplcchiadlpaaDoorKMJcGet
import Derived.Test.YtmoplcchiadlpaaDoorKMJcOps
set_option linter.unusedVariables false
set_option linter.unusedSimpArgs false
namespace Go.Proofs.YtmoplcchiadlpaaDoor.Jc
open Go

theorem dec_chars : ∀ (u : Nat), ∀ x ∈ Lib.decDigits u, 48 ≤ x.toNat ∧ x.toNat ≤ 57 := by
  intro u
  induction u using Nat.strongRecOn with
  | _ u ih =>
    intro x hx
    rw [Lib.decDigits] at hx
    split at hx
    · rename_i h
      rw [List.mem_singleton] at hx
      rw [hx, UInt8.toNat_ofNat']
      omega
    · rename_i h
      rcases List.mem_append.1 hx with h1 | h1
      · exact ih (u / 10) (by omega) x h1
      · rw [List.mem_singleton] at h1
        rw [h1, UInt8.toNat_ofNat']
        omega
theorem itoa_chars (n : Int) : ∀ x ∈ Lib.itoa n, x = 45 ∨ (48 ≤ x.toNat ∧ x.toNat ≤ 57) := by
  intro x hx
  unfold Lib.itoa at hx
  split at hx
  · rcases List.mem_cons.1 hx with h | h
    · exact .inl h
    · exact .inr (dec_chars _ x h)
  · exact .inr (dec_chars _ x hx)
theorem itoa_space (n : Int) : (32 : UInt8) ∉ Lib.itoa n := fun h => by
  rcases itoa_chars n 32 h with h | h
  · exact absurd h (by decide)
  · have : (32 : UInt8).toNat = 32 := rfl
    omega
theorem dec_ne (u : Nat) : Lib.decDigits u ≠ [] := by
  rw [Lib.decDigits]
  split <;> simp
theorem dec_inj : ∀ (u v : Nat), Lib.decDigits u = Lib.decDigits v → u = v := by
  intro u
  induction u using Nat.strongRecOn with
  | _ u ih =>
    intro v h
    rw [Lib.decDigits, Lib.decDigits.eq_def v] at h
    have hd : ∀ a b : Nat, a < 10 → b < 10 → UInt8.ofNat (48 + a) = UInt8.ofNat (48 + b) → a = b := fun a b ha hb he => by
      have := congrArg UInt8.toNat he
      rw [UInt8.toNat_ofNat', UInt8.toNat_ofNat'] at this
      omega
    by_cases hu : u < 10
    · by_cases hv : v < 10
      · rw [dif_pos hu, dif_pos hv] at h
        injection h with h
        exact hd u v hu hv h
      · rw [dif_pos hu, dif_neg hv] at h
        have hl := congrArg List.length h
        have := List.length_pos_iff.2 (dec_ne (v / 10))
        simp only [List.length_append, List.length_singleton] at hl
        omega
    · by_cases hv : v < 10
      · rw [dif_neg hu, dif_pos hv] at h
        have hl := congrArg List.length h
        have := List.length_pos_iff.2 (dec_ne (u / 10))
        simp only [List.length_append, List.length_singleton] at hl
        omega
      · rw [dif_neg hu, dif_neg hv] at h
        have h2 := List.append_inj' h rfl
        have h3 := ih (u / 10) (by omega) (v / 10) h2.1
        have h4 := h2.2
        injection h4 with h4
        have h5 := hd (u % 10) (v % 10) (by omega) (by omega) h4
        omega
theorem itoa_inj (a b : Int) (h : Lib.itoa a = Lib.itoa b) : a = b := by
  have no45 : ∀ u v : Nat, (45 : UInt8) :: Lib.decDigits u ≠ Lib.decDigits v := fun u v e => by
    have := dec_chars v 45 (by rw [← e]; exact List.mem_cons_self)
    have e2 : (45 : UInt8).toNat = 45 := rfl
    omega
  unfold Lib.itoa at h
  split at h
  · split at h
    · injection h with _ h
      have := dec_inj _ _ h
      omega
    · exact absurd h (no45 _ _)
  · split at h
    · exact absurd h.symm (no45 _ _)
    · have := dec_inj _ _ h
      omega

/-! Words with a space between. -/
def spaces (ps : List (List UInt8)) : List UInt8 := (ps.map fun q => 32 :: q).flatten
theorem join_spaces (p : List UInt8) : ∀ ps : List (List UInt8), Lib.join (p :: ps) [32] = p ++ spaces ps
  | [] => by simp [Lib.join, List.intercalate, spaces]
  | q :: r => by
    have h := join_spaces q r
    have e : Lib.join (p :: q :: r) [32] = p ++ (32 :: Lib.join (q :: r) [32]) := by
      simp [Lib.join, List.intercalate, List.intersperse]
    rw [e, h]
    simp [spaces]
theorem word_split : ∀ (p q x y : List UInt8), (32 : UInt8) ∉ p → (32 : UInt8) ∉ q → p ++ 32 :: x = q ++ 32 :: y → p = q ∧ x = y
  | [], [], x, y, _, _, h => by
    injection h with _ h
    exact ⟨rfl, h⟩
  | [], b :: q, x, y, _, hq, h => by
    injection h with h _
    exact absurd (by rw [← h]; exact List.mem_cons_self) hq
  | a :: p, [], x, y, hp, _, h => by
    injection h with h _
    exact absurd (by rw [h]; exact List.mem_cons_self) hp
  | a :: p, b :: q, x, y, hp, hq, h => by
    injection h with h1 h2
    obtain ⟨h3, h4⟩ := word_split p q x y (fun e => hp (List.mem_cons_of_mem _ e)) (fun e => hq (List.mem_cons_of_mem _ e)) h2
    exact ⟨by rw [h1, h3], h4⟩
theorem words_inj : ∀ (ps qs : List (List UInt8)) (p q : List UInt8), (32 : UInt8) ∉ p → (32 : UInt8) ∉ q → (∀ a ∈ ps, (32 : UInt8) ∉ a) → (∀ a ∈ qs, (32 : UInt8) ∉ a) → p ++ spaces ps = q ++ spaces qs → p = q ∧ ps = qs
  | [], [], p, q, _, _, _, _, h => by
    simp only [spaces, List.map_nil, List.flatten_nil, List.append_nil] at h
    exact ⟨h, rfl⟩
  | [], b :: qs, p, q, hp, _, _, _, h => by
    have : (32 : UInt8) ∈ p := by
      have e : p = q ++ spaces (b :: qs) := by simpa [spaces] using h
      rw [e]
      exact List.mem_append_right _ (by simp [spaces])
    exact absurd this hp
  | a :: ps, [], p, q, _, hq, _, _, h => by
    have : (32 : UInt8) ∈ q := by
      have e : p ++ spaces (a :: ps) = q := by simpa [spaces] using h
      rw [← e]
      exact List.mem_append_right _ (by simp [spaces])
    exact absurd this hq
  | a :: ps, b :: qs, p, q, hp, hq, hps, hqs, h => by
    have e1 : spaces (a :: ps) = 32 :: (a ++ spaces ps) := by simp [spaces]
    have e2 : spaces (b :: qs) = 32 :: (b ++ spaces qs) := by simp [spaces]
    rw [e1, e2] at h
    obtain ⟨h1, h2⟩ := word_split p q _ _ hp hq h
    obtain ⟨h3, h4⟩ := words_inj ps qs a b (hps a List.mem_cons_self) (hqs b List.mem_cons_self) (fun x hx => hps x (List.mem_cons_of_mem _ hx)) (fun x hx => hqs x (List.mem_cons_of_mem _ hx)) h2
    exact ⟨h1, by rw [h3, h4]⟩

/-! Names. -/
theorem names_are : ∀ p ∈ tab, (∀ x ∈ p.2.1, x ≠ 32 ∧ x ≠ 46) ∧ p.2.1 ≠ [] := by decide +kernel
theorem names_part : ∀ p ∈ tab, ∀ q ∈ tab, p.2.1 = q.2.1 → p.1 = q.1 := by decide +kernel
theorem name_at (op : Int) (h : known op = true) : (op, nameOf op, fieldsOf op) ∈ tab := by
  unfold known at h
  unfold nameOf fieldsOf
  obtain ⟨x, hx⟩ := Option.isSome_iff_exists.1 h
  rw [hx]
  exact info_mem hx
theorem name_of (op : Int) (h : known op = true) : (32 : UInt8) ∉ nameOf op ∧ (46 : UInt8) ∉ nameOf op ∧ nameOf op ≠ [] := by
  obtain ⟨h1, h2⟩ := names_are _ (name_at op h)
  exact ⟨fun e => (h1 32 e).1 rfl, fun e => (h1 46 e).2 rfl, h2⟩
theorem name_inj (a b : Int) (ha : known a = true) (hb : known b = true) (h : nameOf a = nameOf b) : a = b := names_part _ (name_at a ha) _ (name_at b hb) h
def headT (m : M) : List UInt8 := nameOf m.op ++ if farOf m then [46, 108] else []
theorem headT_space (m : M) (h : known m.op = true) : (32 : UInt8) ∉ headT m := fun e => by
  unfold headT at e
  rcases List.mem_append.1 e with e | e
  · exact (name_of m.op h).1 e
  · cases farOf m <;> simp at e
theorem headT_inj (m k : M) (hm : known m.op = true) (hk : known k.op = true) (h : headT m = headT k) : m.op = k.op ∧ farOf m = farOf k := by
  unfold headT at h
  obtain ⟨_, a2, _⟩ := name_of m.op hm
  obtain ⟨_, b2, _⟩ := name_of k.op hk
  cases h1 : farOf m <;> cases h2 : farOf k <;> simp only [h1, h2, if_true, Bool.false_eq_true, if_false, List.append_nil] at h
  · exact ⟨name_inj _ _ hm hk h, rfl⟩
  · exact absurd (by rw [h]; simp) a2
  · exact absurd (by rw [← h]; simp) b2
  · exact ⟨name_inj _ _ hm hk (List.append_inj_left' h rfl), rfl⟩
def restT (m : M) : List (List UInt8) := (valsM m).map (fun x => 114 :: Lib.itoa x) ++ numTexts m
theorem restT_space (m : M) : ∀ a ∈ restT m, (32 : UInt8) ∉ a := by
  intro a ha
  unfold restT at ha
  rcases List.mem_append.1 ha with h | h
  · obtain ⟨x, _, rfl⟩ := List.mem_map.1 h
    intro e
    rcases List.mem_cons.1 e with e | e
    · exact absurd e (by decide)
    · exact itoa_space x e
  · unfold numTexts at h
    split at h
    · cases h
    split at h
    · simp only [List.mem_cons, List.not_mem_nil, or_false] at h
      rcases h with rfl | rfl <;> exact itoa_space _
    split at h
    · split at h
      · rw [List.mem_singleton] at h
        rw [h]
        decide
      · cases h
    split at h
    · obtain ⟨x, _, rfl⟩ := List.mem_map.1 h
      exact itoa_space x
    · rw [List.mem_singleton] at h
      rw [h]
      exact itoa_space _
theorem text_of (m : M) (h : shapeOk m = true) : textM m = headT m ++ spaces (restT m) := by
  unfold textM
  rw [if_neg (by rw [h]; decide)]
  exact join_spaces _ _
theorem shape_kn {m : M} (h : shapeOk m = true) : known m.op = true := by
  unfold shapeOk at h
  simp only [Bool.and_eq_true] at h
  exact h.1
theorem text_ne (m : M) (h : shapeOk m = true) : textM m ≠ [] := by
  rw [text_of m h]
  unfold headT
  have := (name_of m.op (shape_kn h)).2.2
  simp [this]
theorem text_none (m : M) (h : shapeOk m = false) : textM m = [] := if_pos h
theorem size_none (m : M) (h : shapeOk m = false) : sizeM m = 0 := if_pos h
theorem size_pos (m : M) (h : shapeOk m = true) : 1 ≤ sizeM m := by
  unfold sizeM
  rw [if_neg (by rw [h]; decide)]
  repeat' split
  all_goals omega
theorem text_name (m : M) (h : shapeOk m = true) : (nameOf m.op).length ≤ (textM m).length ∧ (textM m).take (nameOf m.op).length = nameOf m.op ∧ 0 < (nameOf m.op).length := by
  rw [text_of m h]
  unfold headT
  rw [List.append_assoc]
  exact ⟨by simp, List.take_left, List.length_pos_iff.2 (name_of m.op (shape_kn h)).2.2⟩
theorem counts_len : ∀ (l r : List Int) (n : Int), counts n l = true → counts n r = true → l.length = r.length → l = r
  | [], [], _, _, _, _ => rfl
  | [], b :: r, _, _, _, h => by simp at h
  | a :: l, [], _, _, _, h => by simp at h
  | a :: l, b :: r, n, h1, h2, h => by
    simp only [counts, Bool.and_eq_true, beq_iff_eq] at h1 h2
    rw [h1.1, h2.1, counts_len l r (n + 1) h1.2 h2.2 (by simpa using h)]
theorem map_itoa_inj : ∀ (l r : List Int), l.map Lib.itoa = r.map Lib.itoa → l = r
  | [], [], _ => rfl
  | [], b :: r, h => by simp at h
  | a :: l, [], h => by simp at h
  | a :: l, b :: r, h => by
    simp only [List.map_cons, List.cons.injEq] at h
    rw [itoa_inj a b h.1, map_itoa_inj l r h.2]
theorem nums_110 (m : M) (h : numF m.op = 110) : numTexts m = [Lib.itoa m.args.length, Lib.itoa m.imm] := by
  unfold numTexts
  rw [h, if_neg (by decide), if_pos rfl]
theorem nums_101 (m : M) (h : numF m.op = 101) : numTexts m = if m.e = 1 then [[114, 48]] else [] := by
  unfold numTexts
  rw [h, if_neg (by decide), if_neg (by decide), if_pos rfl]
theorem nums_116 (m : M) (h : numF m.op = 116) : numTexts m = m.args.map Lib.itoa := by
  unfold numTexts
  rw [h, if_neg (by decide), if_neg (by decide), if_neg (by decide), if_pos rfl]
theorem nums_else (m : M) (h : ¬ (numF m.op = 0 ∨ numF m.op = 101 ∨ numF m.op = 116)) (h2 : ¬ numF m.op = 110) : numTexts m = [Lib.itoa m.imm] := by
  unfold numTexts
  rw [if_neg (fun e => h (.inl e)), if_neg h2, if_neg (fun e => h (.inr (.inl e))), if_neg (fun e => h (.inr (.inr e)))]
theorem num_op (op : Int) (h : known op = true) : (numF op = 101 → op = 50) ∧ (numF op = 110 → op = 28) := by
  have := info_all (fun op _ f k => !k || (decide ((splitF f).2 = 101 → op = 50) && decide ((splitF f).2 = 110 → op = 28))) (fun _ => by simp) (by decide +kernel) op
  rw [h, Bool.not_true, Bool.false_or, Bool.and_eq_true, decide_eq_true_eq, decide_eq_true_eq] at this
  exact this
theorem shape_e {m : M} (h : shapeOk m = true) (hn : numF m.op = 98 ∨ numF m.op = 101) : m.e = 0 ∨ m.e = 1 := by
  have hk := shape_kn h
  have h50 : numF m.op = 98 ∨ m.op = 50 := hn.imp id (num_op m.op hk).1
  have n28 : ¬ m.op = 28 := fun e => by rw [e, op28.2] at hn; revert hn; decide
  have n29 : ¬ m.op = 29 := fun e => by rw [e, op29.2] at hn; revert hn; decide
  unfold shapeOk at h
  rw [hk, if_neg n28, if_neg n29, if_pos h50] at h
  simpa using h
theorem shape_29 {m : M} (h : shapeOk m = true) (h29 : m.op = 29) : m.e = 1 := by
  unfold shapeOk at h
  rw [if_neg (by omega), if_pos h29] at h
  simp only [Bool.and_eq_true, beq_iff_eq] at h
  exact h.2.2
theorem shape_28c {m : M} (h : shapeOk m = true) (hn : numF m.op = 110) : counts 0 m.args = true := by
  have h28 := (num_op m.op (shape_kn h)).2 hn
  unfold shapeOk at h
  rw [if_pos h28] at h
  simp only [Bool.and_eq_true] at h
  exact h.2.1.1
theorem text_same {m k : M} (hm : shapeOk m = true) (hk : shapeOk k = true) (h : textM m = textM k) : plainM m = plainM k := by
  have km := shape_kn hm
  have kk := shape_kn hk
  rw [text_of m hm, text_of k hk] at h
  obtain ⟨h1, h2⟩ := words_inj _ _ _ _ (headT_space m km) (headT_space k kk) (restT_space m) (restT_space k) h
  obtain ⟨hop, hfar⟩ := headT_inj m k km kk h1
  unfold restT at h2
  have hl : ((valsM m).map fun x => 114 :: Lib.itoa x).length = ((valsM k).map fun x => 114 :: Lib.itoa x).length := by
    rw [List.length_map, List.length_map, valsM_length, valsM_length, hop]
  obtain ⟨hv, hn⟩ := List.append_inj h2 hl
  have hreg : ∀ x ∈ regsF m.op, regVal m x = regVal k x := by
    intro x hx
    have e : (regsF m.op).map (fun x => (114 : UInt8) :: Lib.itoa (regVal m x)) = (regsF m.op).map (fun x => (114 : UInt8) :: Lib.itoa (regVal k x)) := by
      have hv2 := hv
      unfold valsM at hv2
      rw [List.map_map, List.map_map, ← hop] at hv2
      exact hv2
    have := (List.map_inj_left.1 e) x hx
    injection this with _ this
    exact itoa_inj _ _ this
  have hnm : numF k.op = numF m.op := by rw [hop]
  have he : (numF m.op = 101 ∨ numF m.op = 98 ∨ m.op = 29) → m.e = k.e := by
    rintro (h101 | h98 | h29)
    · rw [nums_101 m h101, nums_101 k (by rw [hnm]; exact h101)] at hn
      have e1 := shape_e hm (.inr h101)
      have e2 := shape_e hk (.inr (by rw [hnm]; exact h101))
      rcases e1 with e1 | e1 <;> rcases e2 with e2 | e2 <;> rw [e1, e2] at hn ⊢ <;> simp at hn
    · have e1 := shape_e hm (.inl h98)
      have e2 := shape_e hk (.inl (by rw [hnm]; exact h98))
      unfold farOf at hfar
      rw [hnm, h98] at hfar
      rcases e1 with e1 | e1 <;> rcases e2 with e2 | e2 <;> rw [e1, e2] at hfar ⊢ <;> simp at hfar
    · have e1 := shape_29 hm h29
      have e2 := shape_29 hk (by rw [← hop]; exact h29)
      rw [e1, e2]
  have himm : ¬ (numF m.op = 0 ∨ numF m.op = 101 ∨ numF m.op = 116) → m.imm = k.imm := by
    intro hno
    by_cases h110 : numF m.op = 110
    · rw [nums_110 m h110, nums_110 k (by rw [hnm]; exact h110)] at hn
      simp only [List.cons.injEq, and_true] at hn
      exact itoa_inj _ _ hn.2
    · rw [nums_else m hno h110, nums_else k (by rw [hnm]; exact hno) (by rw [hnm]; exact h110)] at hn
      simp only [List.cons.injEq, and_true] at hn
      exact itoa_inj _ _ hn
  have harg : (numF m.op = 110 ∨ numF m.op = 116) → m.args = k.args := by
    rintro (h110 | h116)
    · rw [nums_110 m h110, nums_110 k (by rw [hnm]; exact h110)] at hn
      simp only [List.cons.injEq, and_true] at hn
      have hlen := itoa_inj _ _ hn.1
      exact counts_len _ _ 0 (shape_28c hm h110) (shape_28c hk (by rw [hnm]; exact h110)) (by omega)
    · rw [nums_116 m h116, nums_116 k (by rw [hnm]; exact h116)] at hn
      exact map_itoa_inj _ _ hn
  have hr : ∀ (x : UInt8) (u v : Int), (x ∈ regsF m.op → u = v) → (if x ∈ regsF m.op then u else 0) = (if x ∈ regsF m.op then v else 0) := fun x u v h => by
    split
    · exact h (by assumption)
    · rfl
  unfold plainM
  rw [← hop]
  rw [hr 68 m.d k.d (fun h => hreg 68 h), hr 65 m.a k.a (fun h => hreg 65 h), hr 66 m.b k.b (fun h => hreg 66 h), hr 67 m.c k.c (fun h => hreg 67 h)]
  congr 1
  · split
    · exact he (by assumption)
    · rfl
  · split
    · rfl
    · exact himm (by assumption)
  · split
    · exact harg (by assumption)
    · rfl
theorem text_plain {m : M} (h : shapeOk m = true) : textM (plainM m) = textM m := by
  rw [text_of m h, text_of (plainM m) (plain_shape m h)]
  have hop : (plainM m).op = m.op := rfl
  have h1 : headT (plainM m) = headT m := by
    unfold headT
    rw [plain_far]
    rfl
  have h2 : numTexts (plainM m) = numTexts m := by
    by_cases n110 : numF m.op = 110
    · rw [nums_110 m n110, nums_110 (plainM m) n110]
      have e1 : (plainM m).args = m.args := if_pos (.inl n110)
      have e2 : (plainM m).imm = m.imm := if_neg (by rw [n110]; decide)
      rw [e1, e2]
    by_cases n101 : numF m.op = 101
    · rw [nums_101 m n101, nums_101 (plainM m) n101]
      have e1 : (plainM m).e = m.e := if_pos (.inl n101)
      rw [e1]
    by_cases n116 : numF m.op = 116
    · rw [nums_116 m n116, nums_116 (plainM m) n116]
      have e1 : (plainM m).args = m.args := if_pos (.inr n116)
      rw [e1]
    by_cases n0 : numF m.op = 0
    · have a1 : numTexts m = [] := if_pos n0
      have a2 : numTexts (plainM m) = [] := if_pos n0
      rw [a1, a2]
    · have hno : ¬ (numF m.op = 0 ∨ numF m.op = 101 ∨ numF m.op = 116) := by
        rintro (h | h | h)
        · exact n0 h
        · exact n101 h
        · exact n116 h
      rw [nums_else m hno n110, nums_else (plainM m) hno n110]
      have e2 : (plainM m).imm = m.imm := if_neg hno
      rw [e2]
  unfold restT
  rw [h1, h2, plain_vals]
theorem text_iff {m k : M} (hm : shapeOk m = true) (hk : shapeOk k = true) : textM m = textM k ↔ plainM m = plainM k :=
  ⟨text_same hm hk, fun h => by rw [← text_plain hm, ← text_plain hk, h]⟩
end Go.Proofs.YtmoplcchiadlpaaDoor.Jc
