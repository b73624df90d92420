/- Slices that lie in memory, read as lists, whatever their elements' cells. -/
import Derived.Test.YtdgeinipdphoeaaOpenB
namespace Go.Proofs.Ytdgeinipdphoeaa
set_option linter.unusedVariables false
set_option linter.unusedSimpArgs false
open Go.ChangeShapes Go.WideShapes Go.ChangeAt Go.RowKit

/-- n elements of some cells each: the slice value v, whose cells are cs. -/
def SlAt (w : World) (v : Value) (n size : Nat) (cs : List Value) : Prop :=
  cs.length = n * size ∧ ∃ ao cap, v = .slice ao n cap ∧ n ≤ cap ∧ cap ≤ maxLen ∧ (ao = none → cap = 0) ∧
    (0 < cs.length → ∃ b off, ao = some ⟨b, off, none⟩ ∧ ∀ j u, cs[j]? = some u → w.cell? ⟨b, off + j, none⟩ = some u)
theorem SlAt.below {w w' : World} {v : Value} {n size : Nat} {cs : List Value} (h : SlAt w v n size cs) (hb : Below w.heap.size w w') : SlAt w' v n size cs := by
  obtain ⟨h0, ao, cap, rfl, h1, h2, h3, h⟩ := h
  refine ⟨h0, ao, cap, rfl, h1, h2, h3, fun hl => ?_⟩
  obtain ⟨b, off, rfl, hc⟩ := h hl
  exact ⟨b, off, rfl, fun j u hj => (hb.cell (p := ⟨b, off + j, none⟩) (World.block_lt_of_cell? _ _ (hc j u hj))).trans (hc j u hj)⟩
theorem SlAt.len {w : World} {v : Value} {n size : Nat} {cs : List Value} (h : SlAt w v n size cs) : cs.length = n * size := h.1
theorem SlAt.nil (w : World) (size : Nat) : SlAt w (.slice none 0 0) 0 size [] := ⟨by simp, none, 0, rfl, Nat.le_refl _, by simp, fun _ => rfl, fun h => by simp at h⟩
theorem SlAt.own {w : World} {base : Nat} {e : TypeId} {size : Nat} {v : Value} {n : Nat} {xs : List Value} (h : w.ownsRow base e size v n xs) : SlAt w v n size xs := by
  refine ⟨h.1, ?_⟩
  have hk := h
  rcases h.2 with ⟨rfl, h0⟩ | ⟨g, cap, cur, rfl, _, _, h3, h4, _, _⟩
  · subst h0
    exact ⟨none, 0, rfl, Nat.le_refl _, by simp, fun _ => rfl, fun hl => absurd h.1 (by simp; intro e; rw [e] at hl; simp at hl)⟩
  · refine ⟨_, cap, rfl, h3, h4, (fun h => (by cases h)), fun hl => ⟨g, 0, rfl, fun j u hj => ?_⟩⟩
    have hjl : j < xs.length := (List.getElem?_eq_some_iff.1 hj).1
    rw [show 0 + j = j from Nat.zero_add j, hk.cellAt j (by rw [← h.1]; exact hjl), hj]
/-- The first k elements. -/
theorem SlAt.take {w : World} {ao : Option Addr} {n cap size : Nat} {cs : List Value} (h : SlAt w (.slice ao n cap) n size cs) {k : Nat} (hk : k ≤ n) : SlAt w (.slice ao k cap) k size (cs.take (k * size)) := by
  obtain ⟨h0, ao', cap', e, h1, h2, h3, h⟩ := h
  simp only [Value.slice.injEq, true_and] at e
  obtain ⟨rfl, rfl⟩ := e
  have hle : k * size ≤ n * size := Nat.mul_le_mul_right size hk
  refine ⟨by simp; omega, ao, cap, rfl, by omega, h2, h3, fun hl => ?_⟩
  obtain ⟨b, off, rfl, hc⟩ := h (by simp at hl; omega)
  refine ⟨b, off, rfl, fun j u hj => hc j u ?_⟩
  have hjl : j < k * size := by have := (List.getElem?_eq_some_iff.1 hj).1; simp at this; omega
  rw [List.getElem?_take_of_lt hjl] at hj
  exact hj
theorem SlAt.parts {w : World} {ao : Option Addr} {n m cap size : Nat} {cs : List Value} (h : SlAt w (.slice ao m cap) n size cs) : m = n ∧ n ≤ cap ∧ cap ≤ maxLen ∧ (ao = none → cap = 0) ∧
    (0 < cs.length → ∃ b off, ao = some ⟨b, off, none⟩ ∧ ∀ j u, cs[j]? = some u → w.cell? ⟨b, off + j, none⟩ = some u) := by
  obtain ⟨h0, ao', cap', e, h1, h2, h3, h⟩ := h
  simp only [Value.slice.injEq] at e
  obtain ⟨rfl, rfl, rfl⟩ := e
  exact ⟨rfl, h1, h2, h3, h⟩
/-- In the form that an append asks of its source. -/
theorem SlAt.src {w : World} {b off n cap size : Nat} {s : Option Nat} {cs : List Value} (h : SlAt w (.slice (some ⟨b, off, s⟩) n cap) n size cs) : ∀ j u, cs[j]? = some u → w.cell? ((⟨b, off, s⟩ : Addr).add j) = some u := by
  intro j u hj
  obtain ⟨_, _, _, _, h⟩ := h.parts
  have hjl := (List.getElem?_eq_some_iff.1 hj).1
  obtain ⟨b', o', e, hc⟩ := h (by omega)
  simp only [Option.some.injEq, Addr.mk.injEq] at e
  obtain ⟨rfl, rfl, rfl⟩ := e
  have : (⟨b, off, none⟩ : Addr).add j = ⟨b, off + j, none⟩ := by unfold Addr.add; split <;> simp_all
  rw [this]
  exact hc j u hj
theorem SlAt.shape {w : World} {v : Value} {n size : Nat} {cs : List Value} (h : SlAt w v n size cs) : ∃ ao cap, v = .slice ao n cap ∧ n ≤ cap ∧ cap ≤ maxLen ∧ (ao = none → cap = 0) := by
  obtain ⟨_, ao, cap, e, h1, h2, h3, _⟩ := h
  exact ⟨ao, cap, e, h1, h2, h3⟩

theorem flat_len {α β : Type} (k : Nat) (f : α → List β) (hf : ∀ x, (f x).length = k) : ∀ l : List α, (l.flatMap f).length = l.length * k
  | [] => by simp
  | x :: l => by rw [List.flatMap_cons, List.length_append, hf, flat_len k f hf l, List.length_cons, Nat.succ_mul]; omega
theorem flat_at {α β : Type} (k : Nat) (f : α → List β) (hf : ∀ x, (f x).length = k) : ∀ (l : List α) (i r : Nat) (hr : r < k) (hi : i < l.length), (l.flatMap f)[i * k + r]? = (f l[i])[r]?
  | [], i, r, hr, hi => absurd hi (Nat.not_lt_zero i)
  | x :: l, 0, r, hr, hi => by
    rw [List.flatMap_cons, Nat.zero_mul, Nat.zero_add, List.getElem?_append_left (by rw [hf]; exact hr)]; rfl
  | x :: l, i + 1, r, hr, hi => by
    rw [List.flatMap_cons, List.getElem?_append_right (by rw [hf, Nat.succ_mul]; omega), hf, show (i + 1) * k + r - k = i * k + r by rw [Nat.succ_mul]; omega, flat_at k f hf l i r hr (by simpa using hi)]
    rfl
theorem flat_take {α β : Type} (k : Nat) (f : α → List β) (hf : ∀ x, (f x).length = k) : ∀ (l : List α) (m : Nat), (l.flatMap f).take (m * k) = (l.take m).flatMap f
  | [], m => by simp
  | x :: l, 0 => by simp
  | x :: l, m + 1 => by
    rw [List.flatMap_cons, List.take_succ_cons, List.flatMap_cons, List.take_append, hf, show (m + 1) * k - k = m * k by rw [Nat.succ_mul]; omega, flat_take k f hf l m, List.take_of_length_le (by rw [hf, Nat.succ_mul]; omega)]

/-- Texts. -/
abbrev strsV (ss : List ByteArray) : List Value := ss.map Value.string
def StrsSl (w : World) (v : Value) (ss : List ByteArray) : Prop := SlAt w v ss.length 1 (strsV ss)
theorem StrsSl.below {w w' : World} {v : Value} {ss : List ByteArray} (h : StrsSl w v ss) (hb : Below w.heap.size w w') : StrsSl w' v ss := SlAt.below h hb
theorem strs_one (l : List ByteArray) : ∀ u ∈ strsV l, u.oneCell' = true := by
  intro u hu
  obtain ⟨x, _, rfl⟩ := List.mem_map.1 hu
  rfl
theorem StrsSl.own {w : World} {base : Nat} {e : TypeId} {v : Value} {n : Nat} {ss : List ByteArray} (h : w.ownsRow base e 1 v n (strsV ss)) : StrsSl w v ss := by
  have := h.1
  simp at this
  subst this
  exact SlAt.own h
/-- Numbers. -/
def IntsSl (w : World) (v : Value) (xs : List Int) : Prop := SlAt w v xs.length 1 (xs.map (Value.int .i64))
theorem IntsSl.below {w w' : World} {v : Value} {xs : List Int} (h : IntsSl w v xs) (hb : Below w.heap.size w w') : IntsSl w' v xs := SlAt.below h hb
theorem IntsSl.own {w : World} {base : Nat} {e : TypeId} {v : Value} {n : Nat} {xs : List Int} (h : w.ownsRow base e 1 v n (xs.map (Value.int .i64))) : IntsSl w v xs := by
  have := h.1
  simp at this
  subst this
  exact SlAt.own h
theorem IntsSl.ints {w : World} {v : Value} {xs : List Int} (h : IntsSl w v xs) : IntsAt w v xs := by
  obtain ⟨_, ao, cap, rfl, _, _, _, h⟩ := h
  refine ⟨ao, cap, rfl, fun hl => ?_⟩
  obtain ⟨b, off, rfl, hc⟩ := h (by simpa using hl)
  refine ⟨b, off, rfl, fun j hj => hc j _ ?_⟩
  rw [List.getElem?_map, List.getElem?_eq_getElem hj]; rfl
/-- Values. -/
structure ValD where
  s : ByteArray
  nl : Bool
instance : DecidableEq ValD := fun a b => decidable_of_iff (a.s = b.s ∧ a.nl = b.nl) (by cases a; cases b; simp)
def ValD.cells (v : ValD) : List Value := [.string v.s, .bool v.nl]
theorem ValD.cells_len (v : ValD) : v.cells.length = 2 := rfl
def ValsSl (w : World) (v : Value) (l : List ValD) : Prop := SlAt w v l.length 2 (l.flatMap ValD.cells)
theorem ValsSl.below {w w' : World} {v : Value} {l : List ValD} (h : ValsSl w v l) (hb : Below w.heap.size w w') : ValsSl w' v l := SlAt.below h hb
theorem vals_one (l : List ValD) : ∀ u ∈ l.flatMap ValD.cells, u.oneCell' = true := by
  intro u hu
  obtain ⟨x, _, hx⟩ := List.mem_flatMap.1 hu
  simp [ValD.cells] at hx
  rcases hx with rfl | rfl <;> rfl
theorem ValsSl.own {w : World} {base : Nat} {e : TypeId} {v : Value} {n : Nat} {l : List ValD} (h : w.ownsRow base e 2 v n (l.flatMap ValD.cells)) : ValsSl w v l := by
  have := h.1
  rw [flat_len 2 _ ValD.cells_len] at this
  obtain rfl : l.length = n := by omega
  exact SlAt.own h
theorem vals_at {l : List ValD} {i : Nat} (hi : i < l.length) : (l.flatMap ValD.cells)[i * 2]? = some (.string l[i].s) ∧ (l.flatMap ValD.cells)[i * 2 + 1]? = some (.bool l[i].nl) :=
  ⟨(flat_at 2 _ ValD.cells_len l i 0 (by decide) hi).trans rfl, (flat_at 2 _ ValD.cells_len l i 1 (by decide) hi).trans rfl⟩
theorem ValsSl.parts {w : World} {v : Value} {l : List ValD} (h : ValsSl w v l) : ∃ ao cap, v = .slice ao l.length cap ∧ l.length ≤ cap ∧ cap ≤ maxLen ∧ (ao = none → cap = 0) ∧
    (0 < l.length → ∃ b off, ao = some ⟨b, off, none⟩ ∧ ∀ i (hi : i < l.length), w.cell? ⟨b, off + i * 2, none⟩ = some (.string l[i].s) ∧ w.cell? ⟨b, off + i * 2 + 1, none⟩ = some (.bool l[i].nl)) := by
  obtain ⟨h0, ao, cap, rfl, h1, h2, h3, h⟩ := h
  refine ⟨ao, cap, rfl, h1, h2, h3, fun hl => ?_⟩
  obtain ⟨b, off, rfl, hc⟩ := h (by rw [h0]; omega)
  exact ⟨b, off, rfl, fun i hi => ⟨hc _ _ (vals_at hi).1, hc _ _ (vals_at hi).2⟩⟩
end Go.Proofs.Ytdgeinipdphoeaa
