/- strings.Builder, as this program has it: WriteString. -/
import Derived.Test.YtdgeinipdphoeaaBld
import Derived.Lib.AppendStr
import Derived.Lib.UnsafeStr
namespace Go.Proofs.Ytdgeinipdphoeaa
set_option linter.unusedVariables false
set_option linter.unusedSimpArgs false
open Go.ChangeShapes Go.WideShapes Go.ChangeAt Go.RowKit

set_option maxHeartbeats 1000000 in
set_option maxRecDepth 100000 in
theorem writeString_any (B b : Nat) (bs : List Value) (s : ByteArray) (w : World) (h : Bld B b bs w) (hlen : bs.length + s.size ≤ 140737488355328) (hBw : B ≤ w.heap.size) :
    Calls Try.prog 76 #[.pointer (some ⟨b, 0, none⟩), .string s] w fun e w' => e = .returned (.tuple #[.int .i64 (s.size : Int), .nilIface]) ∧ BldAt B b (.pointer (some ⟨b, 0, none⟩)) (bs ++ Lib.strCells s) w' ∧ Below B w w' ∧ Others b w w' := by
  obtain ⟨i0, hi, hz0, hz1, hz2⟩ := info_parts info_u8
  go_enter Try.func76, Try.ntmps76
  go_wp2_with (go_at_call 105; refine (copyCheck_any B b bs _ h).mono ?_)
  rintro e w1 ⟨rfl, h1, hb1, hk1⟩
  obtain ⟨hB, v, hbk, hown, hne⟩ := h1
  have c0 : w1.cell? ⟨b, 0, none⟩ = some (.pointer (some ⟨b, 0, none⟩)) := by rw [Lib.cell_of_heap hbk]; rfl
  have c1 : w1.cell? ⟨b, 1, none⟩ = some v := by rw [Lib.cell_of_heap hbk]; rfl
  have hz := hb1.size
  have hlt : b < w1.heap.size := lt_of_block hbk
  go_wp2_with (at_builtin; go_loud (refine Lib.wpList_append_own_string _ rfl _ _ 103 9 rfl B 5 i0 Try.underlying103 Try.underlying9 hi hz0 hz1 hz2 _ _ _ rfl hown s rfl (by unfold maxLen; omega) (by omega) (by omega) ?_))
  intro v' w2 hown' hgrow hnil
  have hb2 : w2.heap[b]? = some (.cells #[.pointer (some ⟨b, 0, none⟩), v] 105 (0, 0)) := by
    rw [hgrow.block b (by omega) (fun e => hne e.symm)]
    exact hbk
  have d0 : w2.cell? ⟨b, 0, none⟩ = some (.pointer (some ⟨b, 0, none⟩)) := by rw [Lib.cell_of_heap hb2]; rfl
  have d1 : w2.cell? ⟨b, 1, none⟩ = some v := by rw [Lib.cell_of_heap hb2]; rfl
  have f1 : w2.frozen? ⟨b, 1, none⟩ = false := Lib.frozen_of_heap hb2 1
  have hk2 : Others b w w2 := hk1.grown hgrow (row_is hown)
  have hbB : Below B w w2 := hb1.grown hgrow (by omega) (fun r e => (hown.lt r e).1)
  have hbl : (bs ++ Lib.strCells s).length = bs.length + s.size := by rw [List.length_append, Lib.strCells_length]
  have hown2 : w2.ownsRow B 5 1 v' (bs ++ Lib.strCells s).length (bs ++ Lib.strCells s) := by rw [hbl]; exact hown'
  obtain ⟨ao, cap, rfl⟩ := hown'.shape
  clear hown hown' hbk hbl h hgrow hnil
  go_wp2
  go_ret2
  exact ⟨rfl, Lib.BuilderAt.put hB hb2 hown2 (by decide), hbB.setCell hB _, hk2.setCell _ rfl _⟩
theorem bld_below {B b : Nat} {p : Value} {bs : List Value} {w w' : World} (h : BldAt B b p bs w) (hb : Below w.heap.size w w') : BldAt B b p bs w' := by
  obtain ⟨h1, v, hbk, hown, hne⟩ := h
  exact ⟨h1, v, (hb.block b (lt_of_block hbk)).trans hbk, hown.kept (row := none) ⟨hb.os, hb.tape, hb.output, hb.size, fun i hi _ => hb.block i hi⟩ (by cases v.ownBlock <;> simp), hne⟩
theorem Bld.below {B b : Nat} {bs : List Value} {w w' : World} (h : Bld B b bs w) (hb : Below w.heap.size w w') : Bld B b bs w' := by
  rcases h with h | h
  · exact .inl (bld_below h hb)
  · exact .inr (bld_below h hb)
/-- A new one. -/
theorem Bld.new (w : World) : Bld w.heap.size w.heap.size [] (w.alloc (.cells #[.pointer none, .slice none 0 0] 105)) :=
  .inl ⟨Nat.le_refl _, _, heap_at rfl, World.ownsRow_nil _ _ _ _, by simp [Value.ownBlock]⟩
/-- Cells below what the builder may have. -/
theorem cell_low {B b o : Nat} {v : Value} {w w' : World} (h : w.cell? ⟨b, o, none⟩ = some v) (hb : Below B w w') (hlt : b < B) : w'.cell? ⟨b, o, none⟩ = some v := (hb.cell (p := ⟨b, o, none⟩) hlt).trans h
theorem str_join (P : List UInt8) (s : ByteArray) : Lib.strCells (({ data := P.toArray } : ByteArray) ++ s) = Lib.byteCells (P ++ s.data.toList) := by
  rw [Lib.strCells_eq, ByteArray.data_append]
  simp
theorem size_join (P : List UInt8) (s : ByteArray) : (({ data := P.toArray } : ByteArray) ++ s).size = P.length + s.size := by
  rw [ByteArray.size_append]; rfl
end Go.Proofs.Ytdgeinipdphoeaa
