/- How arguments that are texts, values, schemas, rows, and lists of these are opened. -/
import Derived.Test.YtdgeinipdphoeaaMem
import Derived.Test.YtdgeinipdphoeaaOpenA
import Derived.SliceStrings
import Derived.Deep.Slices
import Derived.Deep.Fields
namespace Go.Proofs.Ytdgeinipdphoeaa
set_option linter.unusedVariables false
set_option linter.unusedSimpArgs false
set_option maxRecDepth 100000
open Go.ChangeShapes Go.WideShapes Go.ChangeAt Go.RowKit Go.Joins Go.Deep

section
variable {H : Type} {enc : TypeId × Value → H} {W : World} {base : Nat}
/-- A slice of elements of some cells. -/
theorem open_sl {t e : TypeId} (n : Nat) (ht : Try.prog.underlying t = some (.slice e)) (hC : Try.prog.cellsOf e = n) (h0 : 0 < n) {v : Value} {fuel : Nat} {x : DataW H × List MemPlace} (h : DataW.trod enc Try.prog W 0 (fun _ => true) true fuel t [v] = some x) :
    ∃ (ao : Option Addr) (len cap : Nat), v = .slice ao len cap ∧ len ≤ cap ∧ cap ≤ maxLen ∧ (ao = none → cap = 0) ∧
      (0 < len → ∃ b off, ao = some ⟨b, off, none⟩ ∧ ∀ i, i < len → ∃ (cs : List Value) (k : Nat) (y : DataW H × List MemPlace), cs.length = n ∧ (∀ j u, cs[j]? = some u → W.cell? ⟨b, off + (i * n + j), none⟩ = some u) ∧ DataW.trod enc Try.prog W 0 (fun _ => true) true k e cs = some y) := by
  rcases open_slice ht h with ⟨hcs, _⟩ | ⟨a, len, cap, m, k, D, Pl, hcs, _, hl, hm, hmm, _, hi⟩
  · simp at hcs
    exact ⟨none, 0, 0, hcs, Nat.le_refl _, by simp, fun _ => rfl, fun h => absurd h (by omega)⟩
  · simp at hcs
    simp only [if_true] at hmm
    refine ⟨some a, len, cap, hcs, hl, hm, (fun h => by cases h), fun hlen => ?_⟩
    have key : ∀ i, i < len → ∃ (cs : List Value) (y : DataW H × List MemPlace), cs.length = n ∧ (∀ j u, cs[j]? = some u → W.cell? ((a.add (i * n)).add j) = some u) ∧ DataW.trod enc Try.prog W 0 (fun _ => true) true k e cs = some y := fun i hi' => by
      obtain ⟨cs, hc, ht'⟩ := hi i (by omega)
      rw [hC] at hc
      obtain ⟨_, hcl, hat⟩ := World.cells?_some hc
      exact ⟨cs, _, hcl, fun j u hj => by rw [hat j (by have := (List.getElem?_eq_some_iff.1 hj).1; omega)]; exact hj, ht'⟩
    obtain ⟨b, off, s⟩ := a
    obtain ⟨cs0, _, hl0, hc0, _⟩ := key 0 hlen
    have hs : s = none := by
      have := hc0 0 cs0[0] (List.getElem?_eq_getElem (by omega))
      have := spot_none this
      simpa [Addr.add] using this
    subst hs
    refine ⟨b, off, rfl, fun i hi' => ?_⟩
    obtain ⟨cs, y, h1, h2, h3⟩ := key i hi'
    refine ⟨cs, k, y, h1, fun j u hj => ?_, h3⟩
    have h4 := h2 j u hj
    have e1 : ((⟨b, off, none⟩ : Addr).add (i * n)).add j = ⟨b, off + (i * n + j), none⟩ := by
      have ea : ∀ o m : Nat, (⟨b, o, none⟩ : Addr).add m = ⟨b, o + m, none⟩ := fun o m => by unfold Addr.add; split <;> simp_all
      rw [ea, ea, Nat.add_assoc]
    rw [e1] at h4
    exact h4
/-- The cells of elements, read one by one, are the cells of the list. -/
theorem sl_of {α : Type} {n len : Nat} {f : α → List Value} (hf : ∀ x, (f x).length = n) (h0 : 0 < n) {b off : Nat} (R : α → Prop)
    (h : ∀ i, i < len → ∃ x, R x ∧ ∀ j u, (f x)[j]? = some u → W.cell? ⟨b, off + (i * n + j), none⟩ = some u) : ∃ l : List α, l.length = len ∧ (∀ x ∈ l, R x) ∧ ∀ j u, (l.flatMap f)[j]? = some u → W.cell? ⟨b, off + j, none⟩ = some u := by
  induction len with
  | zero => exact ⟨[], rfl, by simp, by simp⟩
  | succ m ih =>
    obtain ⟨l, h1, h2, h3⟩ := ih (fun i hi => h i (by omega))
    obtain ⟨x, hx, hc⟩ := h m (by omega)
    refine ⟨l ++ [x], by simp [h1], fun y hy => ?_, fun j u hj => ?_⟩
    · rcases List.mem_append.1 hy with h | h
      · exact h2 y h
      · simp at h; subst h; exact hx
    · have hll : (l.flatMap f).length = m * n := by rw [flat_len n f hf, h1]
      rw [List.flatMap_append] at hj
      by_cases hjl : j < m * n
      · rw [List.getElem?_append_left (by omega)] at hj
        exact h3 j u hj
      · rw [List.getElem?_append_right (by omega), hll] at hj
        have := hc (j - m * n) u (by simpa using hj)
        rw [show m * n + (j - m * n) = j by omega] at this
        exact this
theorem flat_one {α : Type} (g : α → Value) : ∀ l : List α, l.flatMap (fun x => [g x]) = l.map g
  | [] => rfl
  | x :: l => by rw [List.flatMap_cons, flat_one g l]; rfl
theorem open_strs {t : TypeId} (ht : Try.prog.underlying t = some (.slice 9)) {v : Value} {fuel : Nat} {x : DataW H × List MemPlace} (h : DataW.trod enc Try.prog W 0 (fun _ => true) true fuel t [v] = some x) :
    ∃ ss, StrsSl W v ss ∧ ∀ s ∈ ss, s.size ≤ 9223372036854775807 := by
  obtain ⟨ao, len, cap, rfl, h1, h2, h3, hA⟩ := open_sl 1 ht (by kernel_rfl) (by decide) h
  by_cases h0 : 0 < len
  · obtain ⟨b, off, rfl, hc⟩ := hA h0
    obtain ⟨ss, hl, hR, hcells⟩ := sl_of (W := W) (n := 1) (len := len) (f := fun s : ByteArray => [Value.string s]) (fun _ => rfl) (by decide) (b := b) (off := off) (fun s => s.size ≤ 9223372036854775807) (fun i hi => by
      obtain ⟨cs, k, y, hl, hcell, ht'⟩ := hc i hi
      obtain ⟨s, hs, _, hsz⟩ := DataW.trod_string Try.underlying9 ht'
      subst hs
      exact ⟨s, by unfold maxLen at hsz; omega, hcell⟩)
    subst hl
    rw [flat_one] at hcells
    exact ⟨ss, ⟨by simp, _, cap, rfl, h1, h2, (fun h => by cases h), fun _ => ⟨b, off, rfl, hcells⟩⟩, hR⟩
  · obtain rfl : len = 0 := by omega
    exact ⟨[], ⟨by simp, ao, cap, rfl, h1, h2, h3, fun h => by simp at h⟩, by simp⟩
theorem open_nums {t : TypeId} (ht : Try.prog.underlying t = some (.slice 2)) {v : Value} {fuel : Nat} {x : DataW H × List MemPlace} (h : DataW.trod enc Try.prog W 0 (fun _ => true) true fuel t [v] = some x) :
    ∃ xs, IntsSl W v xs ∧ ∀ n ∈ xs, I64 n := by
  obtain ⟨ao, len, cap, rfl, h1, h2, h3, hA⟩ := open_sl 1 ht (by kernel_rfl) (by decide) h
  by_cases h0 : 0 < len
  · obtain ⟨b, off, rfl, hc⟩ := hA h0
    obtain ⟨xs, hl, hR, hcells⟩ := sl_of (W := W) (n := 1) (len := len) (f := fun s : Int => [Value.int .i64 s]) (fun _ => rfl) (by decide) (b := b) (off := off) I64 (fun i hi => by
      obtain ⟨cs, k, y, hl, hcell, ht'⟩ := hc i hi
      obtain ⟨s, hs, _, hsz⟩ := DataW.trod_int Try.underlying2 ht'
      subst hs
      exact ⟨s, i64_of_wf hsz, hcell⟩)
    subst hl
    rw [flat_one] at hcells
    exact ⟨xs, ⟨by simp, _, cap, rfl, h1, h2, (fun h => by cases h), fun _ => ⟨b, off, rfl, hcells⟩⟩, hR⟩
  · obtain rfl : len = 0 := by omega
    exact ⟨[], ⟨by simp, ao, cap, rfl, h1, h2, h3, fun h => by simp at h⟩, by simp⟩
theorem val_of {cs : List Value} {k : Nat} {y : DataW H × List MemPlace} (h : DataW.trod enc Try.prog W 0 (fun _ => true) true k 54 cs = some y) : ∃ v : ValD, cs = v.cells ∧ v.s.size ≤ 9223372036854775807 := by
  obtain ⟨y0, y1, n, _, hl, h0, h1⟩ := trod_struct2 Try.underlying54 h
  have hC : Try.prog.cellsOf 54 = 2 := by kernel_rfl
  rw [hC] at hl
  match cs, hl with
  | [a, b], _ =>
    obtain ⟨s, e0, _, hs⟩ := DataW.trod_string Try.underlying9 h0
    obtain ⟨c, e1, _⟩ := DataW.trod_bool Try.underlying4 h1
    have c0 : Try.prog.cellsOf 9 = 1 := by kernel_rfl
    have c1 : Try.prog.cellsOf 4 = 1 := by kernel_rfl
    rw [c0] at e0
    rw [c1] at e1
    simp at e0 e1
    subst e0 e1
    exact ⟨⟨s, c⟩, rfl, by unfold maxLen at hs; omega⟩
theorem open_vals {t : TypeId} (ht : Try.prog.underlying t = some (.slice 54)) {v : Value} {fuel : Nat} {x : DataW H × List MemPlace} (h : DataW.trod enc Try.prog W 0 (fun _ => true) true fuel t [v] = some x) :
    ∃ l, ValsSl W v l ∧ ∀ v ∈ l, v.s.size ≤ 9223372036854775807 := by
  obtain ⟨ao, len, cap, rfl, h1, h2, h3, hA⟩ := open_sl 2 ht (by kernel_rfl) (by decide) h
  by_cases h0 : 0 < len
  · obtain ⟨b, off, rfl, hc⟩ := hA h0
    obtain ⟨l, hl, hR, hcells⟩ := sl_of (W := W) (n := 2) (len := len) (f := ValD.cells) ValD.cells_len (by decide) (b := b) (off := off) (fun v => v.s.size ≤ 9223372036854775807) (fun i hi => by
      obtain ⟨cs, k, y, hl, hcell, ht'⟩ := hc i hi
      obtain ⟨v, hv, hsz⟩ := val_of ht'
      subst hv
      exact ⟨v, hsz, hcell⟩)
    subst hl
    exact ⟨l, ⟨flat_len 2 _ ValD.cells_len l, _, cap, rfl, h1, h2, (fun h => by cases h), fun _ => ⟨b, off, rfl, hcells⟩⟩, hR⟩
  · obtain rfl : len = 0 := by omega
    exact ⟨[], ⟨by simp, ao, cap, rfl, h1, h2, h3, fun h => by simp at h⟩, by simp⟩
theorem open_sch {v : Value} {d : DataW H} {p : List MemPlace} (hv : Value.okWide Try.prog W .any base 24 v) (h : DataW.Trod enc Try.prog W 0 (fun _ => true) true 24 v d p) :
    ∃ vd vm ds ms g, v = .agg #[vd, vm, .int .i64 g] ∧ StrsSl W vd ds ∧ StrsSl W vm ms ∧ (∀ s ∈ ds, s.size ≤ 9223372036854775807) ∧ (∀ s ∈ ms, s.size ≤ 9223372036854775807) ∧ I64 g := by
  obtain ⟨v0, v1, v2, y0, y1, y2, m, rfl, _, _, h0, h1, h2⟩ := open_agg3 (P := Try.prog) Try.underlying24 (by kernel_rfl) (by kernel_rfl) hv h
  obtain ⟨ds, a1, a2⟩ := open_strs Try.underlying22 h0
  obtain ⟨ms, b1, b2⟩ := open_strs Try.underlying22 h1
  obtain ⟨g, e, _, hg⟩ := DataW.trod_int Try.underlying2 h2
  simp at e
  subst e
  exact ⟨v0, v1, ds, ms, g, rfl, a1, b1, a2, b2, i64_of_wf hg⟩
theorem open_row {v : Value} {d : DataW H} {p : List MemPlace} (hv : Value.okWide Try.prog W .any base 28 v) (h : DataW.Trod enc Try.prog W 0 (fun _ => true) true 28 v d p) :
    ∃ vr vn t l xs, v = .agg #[.int .i64 t, vr, vn] ∧ ValsSl W vr l ∧ IntsSl W vn xs ∧ (∀ v ∈ l, v.s.size ≤ 9223372036854775807) ∧ (∀ n ∈ xs, I64 n) ∧ I64 t := by
  obtain ⟨v0, v1, v2, y0, y1, y2, m, rfl, _, _, h0, h1, h2⟩ := open_agg3 (P := Try.prog) Try.underlying28 (by kernel_rfl) (by kernel_rfl) hv h
  obtain ⟨t, e, _, ht⟩ := DataW.trod_int Try.underlying2 h0
  obtain ⟨l, a1, a2⟩ := open_vals Try.underlying25 h1
  obtain ⟨xs, b1, b2⟩ := open_nums Try.underlying26 h2
  simp at e
  subst e
  exact ⟨v1, v2, t, l, xs, rfl, a1, b1, a2, b2, i64_of_wf ht⟩
end
end Go.Proofs.Ytdgeinipdphoeaa
