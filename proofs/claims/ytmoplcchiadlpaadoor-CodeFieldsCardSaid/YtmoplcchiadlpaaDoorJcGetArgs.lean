/- A row of whole numbers that a call makes and keeps in a field of a block: what it reads as. -/
import Derived.Test.YtmoplcchiadlpaaDoorJcGetSpec2
import Derived.Test.YtmoplcchiadlpaaDoorJcApp
set_option linter.unusedVariables false
set_option linter.unusedSimpArgs false
namespace Go.Proofs.YtmoplcchiadlpaaDoor.Jc
open Go Go.RowKit Go.ChangeMaps Go.Proofs.YtmoplcchiadlpaaDoorW.PrintWords

def cellsV (m : M) (v : Value) : Array Value := #[.int .i64 m.op, .int .i64 m.d, .int .i64 m.e, .int .i64 m.a, .int .i64 m.b, .int .i64 m.c, .int .i32 m.imm, v]
theorem cellsV_set (m : M) (u v : Value) : (cellsV m u).setIfInBounds 7 v = cellsV m v := rfl
theorem info_int : (Tryd.prog.info? 3).map (fun i => (i.zero, i.size, i.bytes)) = some (some (.int .i64 0), 1, 8) := by kernel_rfl

/-- A field's row. -/
structure RowV (w : World) (B : Nat) (v : Value) (xs : List Int) : Prop where
  empty : xs = [] → v = .slice none 0 0
  own : w.ownsRow B 3 1 v (nums .i64 xs).length (nums .i64 xs)
theorem RowV.nil (w : World) (B : Nat) : RowV w B (.slice none 0 0) [] := ⟨fun _ => rfl, own_nil w B 3 1⟩
theorem RowV.kept2 {w W : World} {B b1 b2 : Nat} {v : Value} {xs : List Int} (h : RowV w B v xs) (hk : Kept2 w W b1 b2) (h1 : b1 < B) (h2 : b2 < B) : RowV W B v xs := by
  refine ⟨h.empty, h.own.1, ?_⟩
  rcases h.own.2 with h0 | ⟨g, cap, cur, hv, hB, hg, hr⟩
  · exact .inl h0
  · exact .inr ⟨g, cap, cur, hv, hB, (hk.block g (blk_lt' hg) (by omega) (by omega)).trans hg, hr⟩
theorem RowV.args {w : World} {B : Nat} {v : Value} {xs : List Int} (h : RowV w B v xs) : ∃ A c, v = .slice A xs.length c ∧ ReadsInt w .i64 A xs.length xs ∧ xs.length ≤ c := by
  have hl : (nums .i64 xs).length = xs.length := by simp [nums]
  have hw := h.own
  rw [hl] at hw
  obtain ⟨A, c, rfl, hr⟩ := own_reads hw
  refine ⟨A, c, rfl, hr, ?_⟩
  rcases hw.2 with ⟨h0, h1⟩ | ⟨g, cap, cur, hv, _, _, hc, _⟩
  · omega
  · cases hv
    exact hc
theorem RowV.argsIn {w : World} {B : Nat} {m : M} {A : Option Addr} {c : Nat} (h : RowV w B (.slice A m.args.length c) m.args) : ArgsIn w m A c := by
  obtain ⟨A', c', hv, hr, hc⟩ := h.args
  cases hv
  exact ⟨hr, hc⟩

theorem RowV.fresh {w : World} {B n c : Nat} {A : Option Addr} {xs : List Int} (h : RowV w B (.slice A n c) xs) : ∀ ad, A = some ad → B ≤ ad.block := by
  intro ad ha
  subst ha
  exact own_base h.own ad.block rfl

theorem callArgs_succ (n : Nat) : callArgs (n + 1) = callArgs n ++ [(n : Int)] := by simp [callArgs, List.range_succ]
theorem callArgs_length (n : Nat) : (callArgs n).length = n := by simp [callArgs]
theorem callArgs_in (n : Nat) (h : n ≤ 5) : ∀ x ∈ callArgs n, In64 x := by
  intro x hx
  simp only [callArgs, List.mem_map, List.mem_range] at hx
  obtain ⟨k, hk, rfl⟩ := hx
  exact ⟨by omega, by omega⟩
theorem tableArgs_succ (s : List UInt8) (p : Nat) (far : Bool) (n : Nat) : tableArgs s p far (n + 1) = tableArgs s p far n ++ [sgnV 116 far (beNum ((s.drop (p + 1 + 3 * n)).take 3))] := by simp [tableArgs, List.range_succ]
theorem tableArgs_length (s : List UInt8) (p : Nat) (far : Bool) (n : Nat) : (tableArgs s p far n).length = n := by simp [tableArgs]
theorem be3_range (s : List UInt8) (p : Nat) : 0 ≤ beNum ((s.drop p).take 3) ∧ beNum ((s.drop p).take 3) < 16777216 := by
  have h := beNum_range ((s.drop p).take 3)
  have hl : ((s.drop p).take 3).length ≤ 3 := by rw [List.length_take]; omega
  generalize ((s.drop p).take 3).length = L at h hl
  have hL : L = 0 ∨ L = 1 ∨ L = 2 ∨ L = 3 := by omega
  rcases hL with rfl | rfl | rfl | rfl <;> (simp at h; omega)
theorem sgn3_range (far : Bool) (s : List UInt8) (p : Nat) : In64 (sgnV 116 far (beNum ((s.drop p).take 3))) := by
  have h := be3_range s p
  generalize beNum ((s.drop p).take 3) = n at h
  have hw : widthF 116 far = (3, -8388608, 8388607) := by unfold widthF; simp
  unfold sgnV
  rw [hw]
  split <;> (constructor <;> (try simp) <;> omega)
theorem tableArgs_in (s : List UInt8) (p : Nat) (far : Bool) (n : Nat) : ∀ x ∈ tableArgs s p far n, In64 x := by
  intro x hx
  simp only [tableArgs, List.mem_map, List.mem_range] at hx
  obtain ⟨k, hk, rfl⟩ := hx
  exact sgn3_range far s _
/-- One more number in the row. -/
theorem RowV.snoc {w : World} {B : Nat} {v : Value} {xs : List Int} {x : Int} (h : w.ownsRow B 3 1 v (nums .i64 xs ++ [Value.int .i64 x]).length (nums .i64 xs ++ [Value.int .i64 x])) : RowV w B v (xs ++ [x]) :=
  ⟨fun h0 => absurd h0 (by simp), by
    have e : nums .i64 (xs ++ [x]) = nums .i64 xs ++ [Value.int .i64 x] := by simp [nums]
    rw [e]
    exact h⟩
theorem kept2_trans {w w1 w2 : World} {b1 b2 : Nat} (h : Kept2 w w1 b1 b2) (g : Kept2 w1 w2 b1 b2) : Kept2 w w2 b1 b2 :=
  ⟨g.os.trans h.os, g.tape.trans h.tape, g.output.trans h.output, Nat.le_trans h.size g.size, fun k hk h1 h2 => (g.block k (Nat.lt_of_lt_of_le hk h.size) h1 h2).trans (h.block k hk h1 h2)⟩
theorem nums_len (k : IntKind) (xs : List Int) : (nums k xs).length = xs.length := by simp [nums]
end Go.Proofs.YtmoplcchiadlpaaDoor.Jc
