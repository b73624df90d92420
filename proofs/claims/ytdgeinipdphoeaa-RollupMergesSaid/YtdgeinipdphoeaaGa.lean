/- Texts joined: Base, OpenA, Same, OpenB, Mem, AppSl, Blk, Quiet, QTail, Mixed, Mixed2, MapB, CopyR, OpenS, Law. -/
import Derived.Test.YtdgeinipdphoeaaRows
import Derived.Handy
import Derived.Deep.QuietTactic
import Derived.SizedLaws
import Derived.Lib.SmallJoins
import Derived.ChangeMaps5
import Derived.BigQuiet
import Derived.ChangeSlices
import Derived.Laws.AppendOwnNone
import Derived.Maps.AppendAt
import Derived.Deep.AppendLies
import Derived.StillTail
import Derived.OrdersHeld
import Derived.Maps.Own
import Derived.Maps.OwnOps
import Derived.Laws.CopyOwn
import Derived.SliceStrings
import Derived.Deep.Slices
import Derived.Deep.Fields
/- Small plain lemmas that the texts of this seat share. -/
namespace Go.RowKit
theorem Below.step {w W w1 : World} (h : Below w.heap.size w W) (hb : Below W.heap.size W w1) : Below w.heap.size w w1 := h.trans (hb.mono h.size)
theorem Below.new {w W : World} (h : Below w.heap.size w W) (o : Obj) : Below w.heap.size w (W.alloc o) := h.alloc h.size o
theorem Below.drewN {B : Nat} {a w : World} (h : Below B a w) (n : Nat) : Below B a (w.drewN n) := ⟨h.os, h.tape, h.output, h.size, h.block⟩
end Go.RowKit
namespace Go
theorem World.ownsRow.base_le {w : World} {b b' : Nat} {e : TypeId} {size : Nat} {v : Value} {n : Nat} {xs : List Value} (h : w.ownsRow b e size v n xs) (hb : b' ≤ b) : w.ownsRow b' e size v n xs := by
  obtain ⟨h1, h2⟩ := h
  refine ⟨h1, ?_⟩
  rcases h2 with h2 | ⟨g, cap, cur, hv, hg, r⟩
  · exact .inl h2
  · exact .inr ⟨g, cap, cur, hv, by omega, r⟩
theorem World.ownsRow.shape {w : World} {b : Nat} {e : TypeId} {size : Nat} {v : Value} {n : Nat} {xs : List Value} (h : w.ownsRow b e size v n xs) : ∃ ao cap, v = .slice ao n cap := by
  rcases h.2 with ⟨rfl, rfl⟩ | ⟨g, cap, cur, hv, _⟩
  · exact ⟨none, 0, rfl⟩
  · exact ⟨_, cap, hv⟩
end Go
namespace Go.Proofs.Ytdgeinipdphoeaa
set_option linter.unusedVariables false
set_option linter.unusedSimpArgs false
open Go.ChangeShapes Go.WideShapes Go.ChangeAt Go.RowKit

theorem hid {p : Prop} (h : p) : Hid p := h

theorem bcell {B : Nat} {W w1 : World} (hb : Below B W w1) : (∀ b o, b < B → w1.cell? ⟨b, o, none⟩ = W.cell? ⟨b, o, none⟩) ∧ (∀ b o, b < B → w1.frozen? ⟨b, o, none⟩ = W.frozen? ⟨b, o, none⟩) :=
  ⟨fun b o h => hb.cell (p := ⟨b, o, none⟩) h, fun b o h => hb.frozen (p := ⟨b, o, none⟩) h⟩

/-- Behind a call that has made new blocks alone: old cells and marks read as before, old blocks are there. For the walk. -/
theorem bcell3 {W w1 : World} (hb : Below W.heap.size W w1) : (∀ b o, b < W.heap.size → w1.cell? ⟨b, o, none⟩ = W.cell? ⟨b, o, none⟩) ∧ (∀ b o, b < W.heap.size → w1.frozen? ⟨b, o, none⟩ = W.frozen? ⟨b, o, none⟩) ∧ (∀ k, k < W.heap.size → k < w1.heap.size) ∧ W.heap.size ≤ w1.heap.size :=
  ⟨fun b o h => hb.cell (p := ⟨b, o, none⟩) h, fun b o h => hb.frozen (p := ⟨b, o, none⟩) h, fun k h => Nat.lt_of_lt_of_le h hb.size, hb.size⟩

theorem cell_step {w w1 : World} {a : Addr} {v : Value} (h : w.cell? a = some v) (hb : Below w.heap.size w w1) : w1.cell? a = some v := (hb.cell (World.block_lt_of_cell? _ _ h)).trans h

theorem all_take_succ {α : Type} (l : List α) (p : α → Bool) (k : Nat) (h : k < l.length) (hall : (l.take k).all p = true) : (l.take (k + 1)).all p = p l[k] := by
  rw [List.take_succ_eq_append_getElem h, List.all_append, hall]; simp

theorem all_false_of {α : Type} (l : List α) (p : α → Bool) (k : Nat) (h : k < l.length) (hb : p l[k] = false) : l.all p = false := by
  rw [← Bool.not_eq_true, List.all_eq_true]; intro hx
  have := hx l[k] (List.getElem_mem h)
  rw [this] at hb; cases hb

/-- What is appended: one cell of a new block. -/
theorem one_new (w : World) (u : Value) (T : TypeId) : ∀ (j : Nat) (x : Value), [u][j]? = some x → (w.alloc (.cells #[u] T)).cell? ((⟨w.heap.size, 0, none⟩ : Addr).add j) = some x := by
  intro j x hj
  match j, hj with
  | 0, hj => simp at hj; subst hj; simp [Addr.add]
theorem one_int (k : IntKind) (x : Int) : ∀ u ∈ [Value.int k x], u.oneCell' = true := by
  intro u hu; simp at hu; subst hu; rfl

theorem heap_at {w : World} {o : Obj} {n : Nat} (h : n = w.heap.size) : (w.alloc o).heap[n]? = some o := by
  subst h
  show (w.heap.push o)[w.heap.size]? = some o
  simp
theorem heap_past {w : World} {o : Obj} {n : Nat} (h : n < w.heap.size) : (w.alloc o).heap[n]? = w.heap[n]? := Below.heap_alloc w o n h
theorem heap_set_other {w : World} {b o : Nat} {s : Option Nat} {u : Value} {n : Nat} (h : n ≠ b) : (w.setCell ⟨b, o, s⟩ u).heap[n]? = w.heap[n]? := Below.heap_setCell w ⟨b, o, s⟩ u n h
theorem heap_set_same {w : World} {b : Nat} {v u : Value} {t : TypeId} (h : w.heap[b]? = some (.cells #[v] t (0, 0))) : (w.setCell ⟨b, 0, none⟩ u).heap[b]? = some (.cells #[u] t (0, 0)) := one_setCell h

theorem ite_max (x y : Int) : (if x < y then y else x) = max x y := by rw [Int.max_def]; split <;> split <;> omega
theorem ite_min (x y : Int) : (if y < x then y else x) = min x y := by rw [Int.min_def]; split <;> split <;> omega

/-- A scope in which the run jumps at most once, to a label of its own; behind the jump it jumps no more. -/
def jumpFwd (P : Program) (c : Code) (Q : Exit → Act → World → Prop) : Exit → Act → World → Prop
  | .goto l, a, w => ∃ rest, findLabel c l = some rest ∧ rest.wp P (Exit.noGoto Q) a w
  | e, a, w => Q e a w
theorem jumpFwd_ret {P : Program} {c : Code} {Q : Exit → Act → World → Prop} {a : Act} {w : World} : jumpFwd P c Q .ret a w = Q .ret a w := rfl
theorem jumpFwd_normal {P : Program} {c : Code} {Q : Exit → Act → World → Prop} {a : Act} {w : World} : jumpFwd P c Q .normal a w = Q .normal a w := rfl
theorem jumpFwd_goto {P : Program} {c rest : Code} {Q : Exit → Act → World → Prop} {a : Act} {w : World} {l : Nat} (h : findLabel c l = some rest) (hr : rest.wp P (Exit.noGoto Q) a w) : jumpFwd P c Q (.goto l) a w := ⟨rest, h, hr⟩
theorem wp_scope_fwd {P : Program} {c : Code} {Q : Exit → Act → World → Prop} {a : Act} {w : World} (h : c.wp P (jumpFwd P c Q) a w) : (Code.scope c).wp P Q a w := by
  intro b k cs
  obtain ⟨e, a₁, w₁, hq, harr⟩ := h b (.inScope c :: k) cs
  cases e with
  | normal => exact ⟨.normal, a₁, w₁, hq, .head step_scope (Steps.trans harr (.one step_inScope))⟩
  | exit id => exact ⟨.exit id, a₁, w₁, hq, fun k' hk => .head step_scope (harr k' (by simp [exitTo, hk]))⟩
  | goto l =>
    obtain ⟨rest, hf, hr⟩ := hq
    have hg : gotoIn l (.inScope c :: k) = some (.code rest :: .inScope c :: k) := by simp [gotoIn, hf]
    obtain ⟨e₂, a₂, w₂, hq₂, harr₂⟩ := hr b (.inScope c :: k) cs
    have s0 := Steps.head (P := P) (step_scope (b := b) (a := a) (k := k) (cs := cs) (w := w) (c := c)) (harr _ hg)
    cases e₂ with
    | normal => exact ⟨.normal, a₂, w₂, hq₂, Steps.trans s0 (Steps.trans harr₂ (.one step_inScope))⟩
    | exit id => exact ⟨.exit id, a₂, w₂, hq₂, fun k' hk => Steps.trans s0 (harr₂ k' (by simp [exitTo, hk]))⟩
    | goto l => exact hq₂.elim
    | ret => exact ⟨_, a₂, w₂, hq₂, .of_steps s0 harr₂⟩
    | panic ch => exact ⟨_, a₂, w₂, hq₂, .of_steps s0 harr₂⟩
    | outgrown => exact ⟨_, a₂, w₂, hq₂, .of_steps s0 harr₂⟩
  | ret => exact ⟨_, a₁, w₁, hq, .of_steps (.one step_scope) harr⟩
  | panic ch => exact ⟨_, a₁, w₁, hq, .of_steps (.one step_scope) harr⟩
  | outgrown => exact ⟨_, a₁, w₁, hq, .of_steps (.one step_scope) harr⟩

theorem ret_bool {a b : Bool} (h : a = b) : Ending.returned (.bool a) = .returned (.bool b) := by rw [h]
theorem ret_int {k : IntKind} {a b : Int} (h : a = b) : Ending.returned (.int k a) = .returned (.int k b) := by rw [h]
end Go.Proofs.Ytdgeinipdphoeaa
/- How arguments of the kinds that the statements of grain take are opened. -/
namespace Go.Proofs.Ytdgeinipdphoeaa
set_option linter.unusedVariables false
set_option linter.unusedSimpArgs false
set_option maxRecDepth 100000
open Go.ChangeShapes Go.WideShapes Go.ChangeAt Go.RowKit Go.Joins

abbrev I64 (n : Int) : Prop := -9223372036854775808 ≤ n ∧ n ≤ 9223372036854775807
abbrev U64 (n : Int) : Prop := 0 ≤ n ∧ n ≤ 18446744073709551615

theorem i64_of_wf {n : Int} (h : (Lit.int .i64 n).wf = true) : I64 n := by
  simp [Lit.wf, IntKind.min, IntKind.max, IntKind.signed, IntKind.bits] at h
  exact ⟨by omega, by omega⟩
theorem u64_of_wf {n : Int} (h : (Lit.int .u64 n).wf = true) : U64 n := by
  simp [Lit.wf, IntKind.min, IntKind.max, IntKind.signed, IntKind.bits] at h
  exact ⟨by omega, by omega⟩

section
variable {H : Type} {enc : TypeId × Value → H} {W : World} {base : Nat}
theorem open_i64 {t : TypeId} (ht : Try.prog.underlying t = some (.int .i64)) {v : Value} {d : DataW H} {p : List MemPlace} (hv : Value.okWide Try.prog W .any base t v) (h : DataW.Trod enc Try.prog W 0 (fun _ => true) true t v d p) :
    ∃ n, v = .int .i64 n ∧ I64 n := by
  obtain ⟨n, rfl, _, _, w⟩ := open_int ht hv h
  exact ⟨n, rfl, i64_of_wf w⟩
theorem open_u64 {t : TypeId} (ht : Try.prog.underlying t = some (.int .u64)) {v : Value} {d : DataW H} {p : List MemPlace} (hv : Value.okWide Try.prog W .any base t v) (h : DataW.Trod enc Try.prog W 0 (fun _ => true) true t v d p) :
    ∃ n, v = .int .u64 n ∧ U64 n := by
  obtain ⟨n, rfl, _, _, w⟩ := open_int ht hv h
  exact ⟨n, rfl, u64_of_wf w⟩
theorem open_str {t : TypeId} (ht : Try.prog.underlying t = some .string) {v : Value} {d : DataW H} {p : List MemPlace} (hv : Value.okWide Try.prog W .any base t v) (h : DataW.Trod enc Try.prog W 0 (fun _ => true) true t v d p) :
    ∃ s : ByteArray, v = .string s ∧ s.size ≤ 9223372036854775807 := by
  obtain ⟨s, rfl, _, _, hs⟩ := Go.ChangeMaps.open_string ht hv h
  exact ⟨s, rfl, by unfold maxLen at hs; omega⟩
theorem open_wide {v : Value} {d : DataW H} {p : List MemPlace} (hv : Value.okWide Try.prog W .any base 58 v) (h : DataW.Trod enc Try.prog W 0 (fun _ => true) true 58 v d p) :
    ∃ a b, v = .agg #[.int .i64 a, .int .u64 b] ∧ I64 a ∧ U64 b := by
  obtain ⟨c0, c1, y0, y1, m, rfl, _, _, h0, h1⟩ := open_agg2 (P := Try.prog) Try.underlying58 (by kernel_rfl) (by kernel_rfl) hv h
  obtain ⟨a, e0, rfl, wa⟩ := DataW.trod_int Try.underlying2 h0
  obtain ⟨b, e1, rfl, wb⟩ := DataW.trod_int Try.underlying56 h1
  simp at e0 e1
  subst e0 e1
  exact ⟨a, b, rfl, i64_of_wf wa, u64_of_wf wb⟩
end
end Go.Proofs.Ytdgeinipdphoeaa
/- Slices of numbers that lie in memory, read as lists; the reference's 'Same'. -/
namespace Go.Proofs.Ytdgeinipdphoeaa
set_option linter.unusedVariables false
set_option linter.unusedSimpArgs false
open Go.ChangeShapes Go.WideShapes Go.ChangeAt Go.RowKit

/-- The slice value v holds the numbers xs in the world w. -/
def IntsAt (w : World) (v : Value) (xs : List Int) : Prop :=
  ∃ ao cap, v = .slice ao xs.length cap ∧ (0 < xs.length → ∃ b off, ao = some ⟨b, off, none⟩ ∧ ∀ j, j < xs.length → w.cell? ⟨b, off + j, none⟩ = some (.int .i64 (xs[j]?.getD 0)))

theorem IntsAt.below {w w' : World} {v : Value} {xs : List Int} (h : IntsAt w v xs) (hb : Below w.heap.size w w') : IntsAt w' v xs := by
  obtain ⟨ao, cap, rfl, h⟩ := h
  refine ⟨ao, cap, rfl, fun hl => ?_⟩
  obtain ⟨b, off, rfl, hc⟩ := h hl
  exact ⟨b, off, rfl, fun j hj => (hb.cell (p := ⟨b, off + j, none⟩) (World.block_lt_of_cell? _ _ (hc j hj))).trans (hc j hj)⟩

theorem IntsAt.nil {w : World} (ao : Option Addr) (cap : Nat) : IntsAt w (.slice ao 0 cap) [] := ⟨ao, cap, rfl, fun h => by simp at h⟩

theorem IntsAt.own {w : World} {base : Nat} {e : TypeId} {v : Value} {xs : List Int} (h : w.ownsRow base e 1 v xs.length (xs.map (Value.int .i64))) : IntsAt w v xs := by
  rcases h.2 with ⟨rfl, h0⟩ | ⟨g, cap, cur, rfl, _⟩
  · obtain rfl : xs = [] := List.length_eq_zero_iff.1 h0
    exact IntsAt.nil _ _
  · refine ⟨_, cap, rfl, fun hl => ⟨g, 0, rfl, fun j hj => ?_⟩⟩
    have := h.cellAt j (by omega)
    rw [show (0 : Nat) + j = j from by omega, this]
    simp [hj]

/-- A literal slice of numbers. -/
theorem IntsAt.lit (w : World) (xs : List Int) (T : TypeId) (cap : Nat) : IntsAt (w.alloc (.cells (xs.map (Value.int .i64)).toArray T)) (.slice (some ⟨w.heap.size, 0, none⟩) xs.length cap) xs :=
  ⟨_, cap, rfl, fun _ => ⟨_, 0, rfl, fun j hj => by rw [World.cell?_alloc_at _ _ _ _ rfl]; simp [hj]⟩⟩

theorem take_ne_of {xs ys : List Int} (hlen : xs.length = ys.length) (k : Nat) (hk : k < xs.length) (h : ¬ xs[k]?.getD 0 = ys[k]?.getD 0) : ¬ xs = ys := fun e => h (by rw [e])
theorem take_succ_eq {xs ys : List Int} (hlen : xs.length = ys.length) (k : Nat) (hk : k < xs.length) (ht : xs.take k = ys.take k) (h : xs[k]?.getD 0 = ys[k]?.getD 0) : xs.take (k + 1) = ys.take (k + 1) := by
  have hk2 : k < ys.length := by omega
  rw [List.take_succ_eq_append_getElem hk, List.take_succ_eq_append_getElem hk2, ht]
  simp [hk, hk2] at h
  rw [h]

set_option maxHeartbeats 1000000 in
theorem same_any (va vb : Value) (xs ys : List Int) (w : World) (ha : IntsAt w va xs) (hb : IntsAt w vb ys) (hx : xs.length ≤ 1000000000) (hy : ys.length ≤ 1000000000) :
    Calls Try.prog 66 #[va, vb] w fun e w' => e = .returned (.bool (decide (xs = ys))) ∧ Below w.heap.size w w' := by
  obtain ⟨ao, cap, rfl, hA⟩ := ha
  obtain ⟨bo, cap', rfl, hB⟩ := hb
  by_cases hlen : xs.length = ys.length
  · have hl' := hid hlen
    rw [← hlen] at hB hy ⊢
    clear hlen
    by_cases h0 : 0 < xs.length
    · obtain ⟨a, oa, rfl, hca⟩ := hA h0
      obtain ⟨b, ob, rfl, hcb⟩ := hB h0
      clear hA hB
      have HA := hid hca; have HB := hid hcb; clear hca hcb
      go_enter Try.func66, Try.ntmps66
      go_wp2
      go_loopw [5] (fun i wr => ∃ k : Nat, k ≤ xs.length ∧ i = .int .i64 k ∧ xs.take k = ys.take k ∧ Below w.heap.size w wr) (fun i _ => xs.length - (intOf i).toNat)
      case atStart => exact ⟨0, Nat.zero_le _, rfl, rfl, Below.refl _ _⟩
      case round =>
        obtain ⟨k, hk, rfl, htake, hbel⟩ := hrel
        have HT := hid htake; clear htake
        by_cases hlt : k < xs.length
        · have e1 := HA.out k hlt
          have e2 := HB.out k hlt
          have d1 := (hbel.cell (p := ⟨a, oa + k, none⟩) (World.block_lt_of_cell? _ _ e1)).trans e1
          have d2 := (hbel.cell (p := ⟨b, ob + k, none⟩) (World.block_lt_of_cell? _ _ e2)).trans e2
          clear e1 e2
          have hk1 : xs[k]?.getD 0 = xs[k] := by simp [hlt]
          by_cases hxy : xs[k]?.getD 0 = ys[k]?.getD 0
          · have HS := hid (take_succ_eq hl'.out k hlt HT.out hxy)
            rw [← hxy] at d2
            clear hxy
            go_wp2
            go_quiet (fail)
            go_wp2
            go_roundw
            case rel => exact ⟨k + 1, hlt, by go_num, HS.out, hbel.drewN _⟩
            case measure => simp [intOf]; omega
          · have HS := hid (take_ne_of hl'.out k hlt hxy)
            have hne : (xs[k] == ys[k]?.getD 0) = false := by rw [← hk1]; simpa using hxy
            have hne2 : (xs[k] != ys[k]?.getD 0) = true := by rw [← hk1]; simpa using hxy
            clear hxy
            go_wp2
            go_quiet (fail)
            go_wp2
            go_ret
            exact ⟨ret_bool (by simp [HS.out]), hbel.drewN _⟩
        · obtain rfl : k = xs.length := by omega
          go_wp2
          go_ret
          refine ⟨ret_bool ?_, hbel⟩
          have h1 := HT.out
          rw [List.take_length, hl'.out, List.take_length] at h1
          simp [h1]
    · have h1 : xs = [] := List.length_eq_zero_iff.1 (by omega)
      have h2 : ys = [] := List.length_eq_zero_iff.1 (by have := hl'.out; omega)
      subst h1; subst h2
      clear hA hB hx hy h0
      go_enter Try.func66, Try.ntmps66
      go_wp2
      refine wp_loop_rounds 1 ?_
      rw [rounds_succ]
      go_wp2
      go_ret
      exact ⟨rfl, Below.refl _ _⟩
  · have hne : ¬ xs = ys := fun h => hlen (by rw [h])
    have hlen' : ((xs.length : Int) != (ys.length : Int)) = true := by simpa using (fun h => hlen (by exact_mod_cast h))
    have hlen'' : ((xs.length : Int) == (ys.length : Int)) = false := by simpa using (fun h => hlen (by exact_mod_cast h))
    have HN := hid hne; clear hne hA hB
    go_enter Try.func66, Try.ntmps66
    go_wp2
    go_ret
    exact ⟨ret_bool (by simp [HN.out]), Below.refl _ _⟩
end Go.Proofs.Ytdgeinipdphoeaa
/- How an argument that is a slice of numbers is opened. -/
namespace Go.Proofs.Ytdgeinipdphoeaa
set_option linter.unusedVariables false
set_option linter.unusedSimpArgs false
set_option maxRecDepth 100000
open Go.ChangeShapes Go.WideShapes Go.ChangeAt Go.RowKit Go.Joins

theorem spot_none {w : World} {a : Addr} {v : Value} (h : w.cell? a = some v) : a.spot = none := by
  unfold World.cell? at h
  split at h
  · cases hs : a.spot with
    | none => rfl
    | some s => rw [hs] at h; simp at h
  · cases h
theorem addr_at {w : World} {b o : Nat} {s : Option Nat} {n : Nat} {f : Nat → Value} (h : ∀ j, j < n → w.cell? ((⟨b, o, s⟩ : Addr).add j) = some (f j)) (h0 : 0 < n) :
    s = none ∧ ∀ j, j < n → w.cell? ⟨b, o + j, none⟩ = some (f j) := by
  have e0 := h 0 h0
  have hs : s = none := by
    have := spot_none e0
    simpa [Addr.add] using this
  subst hs
  refine ⟨rfl, fun j hj => ?_⟩
  have e := h j hj
  by_cases hq : j = 0
  · subst hq; simpa [Addr.add] using e
  · simpa [Addr.add, hq] using e

/-- A row of numbers lies at an address. -/
def RowAt (w : World) (ao : Option Addr) (xs : List Int) : Prop :=
  0 < xs.length → ∃ b off, ao = some ⟨b, off, none⟩ ∧ ∀ j, j < xs.length → w.cell? ⟨b, off + j, none⟩ = some (.int .i64 (xs[j]?.getD 0))
theorem RowAt.ints {w : World} {ao : Option Addr} {xs : List Int} (h : RowAt w ao xs) (cap : Nat) : IntsAt w (.slice ao xs.length cap) xs := ⟨ao, cap, rfl, h⟩
theorem RowAt.take {w : World} {ao : Option Addr} {xs : List Int} (h : RowAt w ao xs) (k : Nat) : RowAt w ao (xs.take k) := fun h0 => by
  obtain ⟨b, o, rfl, hc⟩ := h (by simp at h0; omega)
  refine ⟨b, o, rfl, fun j hj => ?_⟩
  simp at hj
  rw [hc j (by omega), List.getElem?_take_of_lt (by omega)]
theorem RowAt.below {w w' : World} {ao : Option Addr} {xs : List Int} (h : RowAt w ao xs) (hb : Below w.heap.size w w') : RowAt w' ao xs := fun h0 => by
  obtain ⟨b, o, rfl, hc⟩ := h h0
  exact ⟨b, o, rfl, fun j hj => (hb.cell (p := ⟨b, o + j, none⟩) (World.block_lt_of_cell? _ _ (hc j hj))).trans (hc j hj)⟩

section
variable {H : Type} {enc : TypeId × Value → H} {W : World} {base : Nat}
theorem open_ints64 {t : TypeId} (ht : Try.prog.underlying t = some (.slice 2)) {v : Value} {d : DataW H} {p : List MemPlace} (hv : Value.okWide Try.prog W .any base t v) (h : DataW.Trod enc Try.prog W 0 (fun _ => true) true t v d p) :
    ∃ (ao : Option Addr) (cap : Nat) (xs : List Int), v = .slice ao xs.length cap ∧ RowAt W ao xs ∧ xs.length ≤ cap ∧ cap ≤ maxLen ∧ (ao = none → cap = 0) ∧ (∀ k, k < xs.length → I64 (xs[k]?.getD 0)) := by
  obtain ⟨a0, len, cap, rfl⟩ := okWide_slice ht hv
  obtain ⟨fuel, hf⟩ := h
  rcases open_ints ht Try.underlying2 (by kernel_rfl) hf with ⟨hcs, hx⟩ | ⟨a, len', cap', zs, hcs, _, hl, hm, hz, hx, hcell, hwz⟩
  · simp [Value.cells] at hcs
    obtain ⟨rfl, rfl, rfl⟩ := hcs
    simp only [Prod.mk.injEq] at hx
    exact ⟨none, 0, [], rfl, fun h => by simp at h, by simp, by simp, fun _ => rfl, by simp⟩
  · simp [Value.cells] at hcs
    obtain ⟨rfl, rfl, rfl⟩ := hcs
    simp only [Prod.mk.injEq] at hx
    simp only [if_true] at hz
    have hlen : (zs.take len).length = len := by simp; omega
    have hget : ∀ j, j < len → (zs.take len)[j]?.getD 0 = zs.getD j 0 := fun j hj => by simp [List.getElem?_take, hj]
    refine ⟨some a, cap, zs.take len, by rw [hlen], fun h0 => ?_, by omega, by omega, fun h => (by cases h), fun k hk => ?_⟩
    · obtain ⟨b, o, s⟩ := a
      rw [hlen] at h0 ⊢
      obtain ⟨rfl, hc⟩ := addr_at (n := len) (f := fun j => Value.int .i64 (zs.getD j 0)) (fun j hj => hcell j (by omega)) h0
      exact ⟨b, o, rfl, fun j hj => by rw [hc j hj, hget j hj]⟩
    · rw [hlen] at hk
      rw [hget k hk]
      refine i64_of_wf (hwz _ ?_)
      rw [List.getD_eq_getElem?_getD, List.getElem?_eq_getElem (by omega)]
      simp
end
end Go.Proofs.Ytdgeinipdphoeaa
/- Slices that lie in memory, read as lists, whatever their elements' cells. -/
namespace Go.Proofs.Ytdgeinipdphoeaa
set_option linter.unusedVariables false
set_option linter.unusedSimpArgs false
open Go.ChangeShapes Go.WideShapes Go.ChangeAt Go.RowKit

/-- n elements of some cells each: the slice value v, whose cells are cs. -/
def SlAt (w : World) (v : Value) (n size : Nat) (cs : List Value) : Prop :=
  cs.length = n * size ∧ ∃ ao cap, v = .slice ao n cap ∧ n ≤ cap ∧ cap ≤ maxLen ∧ (ao = none → cap = 0) ∧
    (0 < cs.length → ∃ b off, ao = some ⟨b, off, none⟩ ∧ ∀ j u, cs[j]? = some u → w.cell? ⟨b, off + j, none⟩ = some u)
theorem SlAt.below {w w' : World} {v : Value} {n size : Nat} {cs : List Value} (h : SlAt w v n size cs) (hb : Below w.heap.size w w') : SlAt w' v n size cs := by
  obtain ⟨h0, ao, cap, rfl, h1, h2, h3, h⟩ := h
  refine ⟨h0, ao, cap, rfl, h1, h2, h3, fun hl => ?_⟩
  obtain ⟨b, off, rfl, hc⟩ := h hl
  exact ⟨b, off, rfl, fun j u hj => (hb.cell (p := ⟨b, off + j, none⟩) (World.block_lt_of_cell? _ _ (hc j u hj))).trans (hc j u hj)⟩
theorem SlAt.len {w : World} {v : Value} {n size : Nat} {cs : List Value} (h : SlAt w v n size cs) : cs.length = n * size := h.1
theorem SlAt.nil (w : World) (size : Nat) : SlAt w (.slice none 0 0) 0 size [] := ⟨by simp, none, 0, rfl, Nat.le_refl _, by simp, fun _ => rfl, fun h => by simp at h⟩
theorem SlAt.own {w : World} {base : Nat} {e : TypeId} {size : Nat} {v : Value} {n : Nat} {xs : List Value} (h : w.ownsRow base e size v n xs) : SlAt w v n size xs := by
  refine ⟨h.1, ?_⟩
  have hk := h
  rcases h.2 with ⟨rfl, h0⟩ | ⟨g, cap, cur, rfl, _, _, h3, h4, _, _⟩
  · subst h0
    exact ⟨none, 0, rfl, Nat.le_refl _, by simp, fun _ => rfl, fun hl => absurd h.1 (by simp; intro e; rw [e] at hl; simp at hl)⟩
  · refine ⟨_, cap, rfl, h3, h4, (fun h => (by cases h)), fun hl => ⟨g, 0, rfl, fun j u hj => ?_⟩⟩
    have hjl : j < xs.length := (List.getElem?_eq_some_iff.1 hj).1
    rw [show 0 + j = j from Nat.zero_add j, hk.cellAt j (by rw [← h.1]; exact hjl), hj]
/-- The first k elements. -/
theorem SlAt.take {w : World} {ao : Option Addr} {n cap size : Nat} {cs : List Value} (h : SlAt w (.slice ao n cap) n size cs) {k : Nat} (hk : k ≤ n) : SlAt w (.slice ao k cap) k size (cs.take (k * size)) := by
  obtain ⟨h0, ao', cap', e, h1, h2, h3, h⟩ := h
  simp only [Value.slice.injEq, true_and] at e
  obtain ⟨rfl, rfl⟩ := e
  have hle : k * size ≤ n * size := Nat.mul_le_mul_right size hk
  refine ⟨by simp; omega, ao, cap, rfl, by omega, h2, h3, fun hl => ?_⟩
  obtain ⟨b, off, rfl, hc⟩ := h (by simp at hl; omega)
  refine ⟨b, off, rfl, fun j u hj => hc j u ?_⟩
  have hjl : j < k * size := by have := (List.getElem?_eq_some_iff.1 hj).1; simp at this; omega
  rw [List.getElem?_take_of_lt hjl] at hj
  exact hj
theorem SlAt.parts {w : World} {ao : Option Addr} {n m cap size : Nat} {cs : List Value} (h : SlAt w (.slice ao m cap) n size cs) : m = n ∧ n ≤ cap ∧ cap ≤ maxLen ∧ (ao = none → cap = 0) ∧
    (0 < cs.length → ∃ b off, ao = some ⟨b, off, none⟩ ∧ ∀ j u, cs[j]? = some u → w.cell? ⟨b, off + j, none⟩ = some u) := by
  obtain ⟨h0, ao', cap', e, h1, h2, h3, h⟩ := h
  simp only [Value.slice.injEq] at e
  obtain ⟨rfl, rfl, rfl⟩ := e
  exact ⟨rfl, h1, h2, h3, h⟩
/-- In the form that an append asks of its source. -/
theorem SlAt.src {w : World} {b off n cap size : Nat} {s : Option Nat} {cs : List Value} (h : SlAt w (.slice (some ⟨b, off, s⟩) n cap) n size cs) : ∀ j u, cs[j]? = some u → w.cell? ((⟨b, off, s⟩ : Addr).add j) = some u := by
  intro j u hj
  obtain ⟨_, _, _, _, h⟩ := h.parts
  have hjl := (List.getElem?_eq_some_iff.1 hj).1
  obtain ⟨b', o', e, hc⟩ := h (by omega)
  simp only [Option.some.injEq, Addr.mk.injEq] at e
  obtain ⟨rfl, rfl, rfl⟩ := e
  have : (⟨b, off, none⟩ : Addr).add j = ⟨b, off + j, none⟩ := by unfold Addr.add; split <;> simp_all
  rw [this]
  exact hc j u hj
theorem SlAt.shape {w : World} {v : Value} {n size : Nat} {cs : List Value} (h : SlAt w v n size cs) : ∃ ao cap, v = .slice ao n cap ∧ n ≤ cap ∧ cap ≤ maxLen ∧ (ao = none → cap = 0) := by
  obtain ⟨_, ao, cap, e, h1, h2, h3, _⟩ := h
  exact ⟨ao, cap, e, h1, h2, h3⟩

theorem flat_len {α β : Type} (k : Nat) (f : α → List β) (hf : ∀ x, (f x).length = k) : ∀ l : List α, (l.flatMap f).length = l.length * k
  | [] => by simp
  | x :: l => by rw [List.flatMap_cons, List.length_append, hf, flat_len k f hf l, List.length_cons, Nat.succ_mul]; omega
theorem flat_at {α β : Type} (k : Nat) (f : α → List β) (hf : ∀ x, (f x).length = k) : ∀ (l : List α) (i r : Nat) (hr : r < k) (hi : i < l.length), (l.flatMap f)[i * k + r]? = (f l[i])[r]?
  | [], i, r, hr, hi => absurd hi (Nat.not_lt_zero i)
  | x :: l, 0, r, hr, hi => by
    rw [List.flatMap_cons, Nat.zero_mul, Nat.zero_add, List.getElem?_append_left (by rw [hf]; exact hr)]; rfl
  | x :: l, i + 1, r, hr, hi => by
    rw [List.flatMap_cons, List.getElem?_append_right (by rw [hf, Nat.succ_mul]; omega), hf, show (i + 1) * k + r - k = i * k + r by rw [Nat.succ_mul]; omega, flat_at k f hf l i r hr (by simpa using hi)]
    rfl
theorem flat_take {α β : Type} (k : Nat) (f : α → List β) (hf : ∀ x, (f x).length = k) : ∀ (l : List α) (m : Nat), (l.flatMap f).take (m * k) = (l.take m).flatMap f
  | [], m => by simp
  | x :: l, 0 => by simp
  | x :: l, m + 1 => by
    rw [List.flatMap_cons, List.take_succ_cons, List.flatMap_cons, List.take_append, hf, show (m + 1) * k - k = m * k by rw [Nat.succ_mul]; omega, flat_take k f hf l m, List.take_of_length_le (by rw [hf, Nat.succ_mul]; omega)]

/-- Texts. -/
abbrev strsV (ss : List ByteArray) : List Value := ss.map Value.string
def StrsSl (w : World) (v : Value) (ss : List ByteArray) : Prop := SlAt w v ss.length 1 (strsV ss)
theorem StrsSl.below {w w' : World} {v : Value} {ss : List ByteArray} (h : StrsSl w v ss) (hb : Below w.heap.size w w') : StrsSl w' v ss := SlAt.below h hb
theorem strs_one (l : List ByteArray) : ∀ u ∈ strsV l, u.oneCell' = true := by
  intro u hu
  obtain ⟨x, _, rfl⟩ := List.mem_map.1 hu
  rfl
theorem StrsSl.own {w : World} {base : Nat} {e : TypeId} {v : Value} {n : Nat} {ss : List ByteArray} (h : w.ownsRow base e 1 v n (strsV ss)) : StrsSl w v ss := by
  have := h.1
  simp at this
  subst this
  exact SlAt.own h
/-- Numbers. -/
def IntsSl (w : World) (v : Value) (xs : List Int) : Prop := SlAt w v xs.length 1 (xs.map (Value.int .i64))
theorem IntsSl.below {w w' : World} {v : Value} {xs : List Int} (h : IntsSl w v xs) (hb : Below w.heap.size w w') : IntsSl w' v xs := SlAt.below h hb
theorem IntsSl.own {w : World} {base : Nat} {e : TypeId} {v : Value} {n : Nat} {xs : List Int} (h : w.ownsRow base e 1 v n (xs.map (Value.int .i64))) : IntsSl w v xs := by
  have := h.1
  simp at this
  subst this
  exact SlAt.own h
theorem IntsSl.ints {w : World} {v : Value} {xs : List Int} (h : IntsSl w v xs) : IntsAt w v xs := by
  obtain ⟨_, ao, cap, rfl, _, _, _, h⟩ := h
  refine ⟨ao, cap, rfl, fun hl => ?_⟩
  obtain ⟨b, off, rfl, hc⟩ := h (by simpa using hl)
  refine ⟨b, off, rfl, fun j hj => hc j _ ?_⟩
  rw [List.getElem?_map, List.getElem?_eq_getElem hj]; rfl
/-- Values. -/
structure ValD where
  s : ByteArray
  nl : Bool
instance : DecidableEq ValD := fun a b => decidable_of_iff (a.s = b.s ∧ a.nl = b.nl) (by cases a; cases b; simp)
def ValD.cells (v : ValD) : List Value := [.string v.s, .bool v.nl]
theorem ValD.cells_len (v : ValD) : v.cells.length = 2 := rfl
def ValsSl (w : World) (v : Value) (l : List ValD) : Prop := SlAt w v l.length 2 (l.flatMap ValD.cells)
theorem ValsSl.below {w w' : World} {v : Value} {l : List ValD} (h : ValsSl w v l) (hb : Below w.heap.size w w') : ValsSl w' v l := SlAt.below h hb
theorem vals_one (l : List ValD) : ∀ u ∈ l.flatMap ValD.cells, u.oneCell' = true := by
  intro u hu
  obtain ⟨x, _, hx⟩ := List.mem_flatMap.1 hu
  simp [ValD.cells] at hx
  rcases hx with rfl | rfl <;> rfl
theorem ValsSl.own {w : World} {base : Nat} {e : TypeId} {v : Value} {n : Nat} {l : List ValD} (h : w.ownsRow base e 2 v n (l.flatMap ValD.cells)) : ValsSl w v l := by
  have := h.1
  rw [flat_len 2 _ ValD.cells_len] at this
  obtain rfl : l.length = n := by omega
  exact SlAt.own h
theorem vals_at {l : List ValD} {i : Nat} (hi : i < l.length) : (l.flatMap ValD.cells)[i * 2]? = some (.string l[i].s) ∧ (l.flatMap ValD.cells)[i * 2 + 1]? = some (.bool l[i].nl) :=
  ⟨(flat_at 2 _ ValD.cells_len l i 0 (by decide) hi).trans rfl, (flat_at 2 _ ValD.cells_len l i 1 (by decide) hi).trans rfl⟩
theorem ValsSl.parts {w : World} {v : Value} {l : List ValD} (h : ValsSl w v l) : ∃ ao cap, v = .slice ao l.length cap ∧ l.length ≤ cap ∧ cap ≤ maxLen ∧ (ao = none → cap = 0) ∧
    (0 < l.length → ∃ b off, ao = some ⟨b, off, none⟩ ∧ ∀ i (hi : i < l.length), w.cell? ⟨b, off + i * 2, none⟩ = some (.string l[i].s) ∧ w.cell? ⟨b, off + i * 2 + 1, none⟩ = some (.bool l[i].nl)) := by
  obtain ⟨h0, ao, cap, rfl, h1, h2, h3, h⟩ := h
  refine ⟨ao, cap, rfl, h1, h2, h3, fun hl => ?_⟩
  obtain ⟨b, off, rfl, hc⟩ := h (by rw [h0]; omega)
  exact ⟨b, off, rfl, fun i hi => ⟨hc _ _ (vals_at hi).1, hc _ _ (vals_at hi).2⟩⟩
end Go.Proofs.Ytdgeinipdphoeaa
/- append onto a row of the call's own, of a slice that lies in memory, nil or not. -/
namespace Go.Proofs.Ytdgeinipdphoeaa
set_option linter.unusedVariables false
open Go.ChangeShapes Go.WideShapes Go.ChangeAt Go.RowKit

theorem run_append_sl {P : Program} (w : World) (base : Nat) (t ty e : TypeId) (i : TypeInfo) (z : Value) (size bytes : Nat) (ht : P.underlying t = some (.slice e)) (hi : P.info? e = some i) (hz : i.zero = some z)
    (hsize : i.size = size) (hby : i.bytes = bytes) (hzs : z.cells.size = size) (hsz : 0 < size) (v : Value) (n : Nat) (xs : List Value) (hown : w.ownsRow base e size v n xs)
    (xv : Value) (m : Nat) (news : List Value) (hr : SlAt w xv m size news) (h1 : ∀ u ∈ news, u.oneCell' = true) (h63 : n + m ≤ maxLen) (hbytes : (n + m) * bytes ≤ 140737488355328) (hbase : base ≤ w.heap.size) :
    ∃ v' w', (Builtin.append_ #[t, t] ty #[v, xv]).run P w = .ok v' w' ∧ w'.ownsRow base e size v' (n + m) (xs ++ news) ∧ w.grownBy w' v.ownBlock ∧ (v'.ownBlock = v.ownBlock ∨ v'.ownBlock = some w.heap.size) := by
  obtain ⟨ao, cap, rfl, hl1, _, hn⟩ := SlAt.shape hr
  cases ao with
  | none =>
    obtain rfl := hn rfl
    obtain rfl : m = 0 := by omega
    have hnil : news = [] := List.eq_nil_of_length_eq_zero (by simpa using hr.1)
    subst hnil
    exact ⟨v, w, run_append_owned_none (P := P) (w := w) base t ty e i size ht hi v n xs hown, by simpa using hown, World.grownBy.refl w _, .inl rfl⟩
  | some ad =>
    obtain ⟨b, off, s⟩ := ad
    obtain ⟨v', w', h2, h3, h4, _, h5⟩ := run_append_own_at (P := P) w base t ty e i z size bytes ht hi hz hsize hby hzs hsz v n xs hown ⟨b, off, s⟩ m cap news hr.1 (SlAt.src hr) h1 h63 hbytes hbase
    exact ⟨v', w', h2, h3, h4, h5⟩
theorem wp_append_sl {P : Program} (w : World) {o : Oper} {a : Act} {K : Act → World → Prop} {Q : Exit → Act → World → Prop} (s x : Operand) (t : TypeId)
    (ho : o.op = .call { callee := .builtin .append, args := #[s, x], argTypes := #[t, t] }) (base : Nat) (e : TypeId) (i : TypeInfo) (z : Value) (size bytes : Nat) (ht : P.underlying t = some (.slice e)) (hi : P.info? e = some i) (hz : i.zero = some z)
    (hsize : i.size = size) (hby : i.bytes = bytes) (hzs : z.cells.size = size) (hsz : 0 < size) (v : Value) (n : Nat) (xs : List Value) (hs : a.eval s = v) (hown : w.ownsRow base e size v n xs)
    (xv : Value) (m : Nat) (news : List Value) (hx : a.eval x = xv) (hr : SlAt w xv m size news) (h1 : ∀ u ∈ news, u.oneCell' = true) (h63 : n + m ≤ maxLen) (hbytes : (n + m) * bytes ≤ 140737488355328) (hbase : base ≤ w.heap.size)
    (h : ∀ v' w', w'.ownsRow base e size v' (n + m) (xs ++ news) → w.grownBy w' v.ownBlock → (v'.ownBlock = v.ownBlock ∨ v'.ownBlock = some w.heap.size) → K (a.put o.dst v') w') : o.wp P a w K Q := by
  obtain ⟨v', w', hrun, h2, h3, h4⟩ := run_append_sl (P := P) w base t o.type e i z size bytes ht hi hz hsize hby hzs hsz v n xs hown xv m news hr h1 h63 hbytes hbase
  unfold Oper.wp execOp
  simp only [ho, resolve, invoke, builtin, Sem.run_bind, Sem.run_pure, Result.andThen_ok, List.map_toArray, List.map_cons, List.map_nil, hs, hx, hrun]
  exact h v' w' h2 h3 h4
theorem wpList_append_sl {P : Program} (w : World) {ops : Array Oper} {rest : List Oper} {o : Oper} {a : Act} {Q : Exit → Act → World → Prop} (hgd : o.guard = none) (s x : Operand) (t : TypeId)
    (ho : o.op = .call { callee := .builtin .append, args := #[s, x], argTypes := #[t, t] }) (base : Nat) (e : TypeId) (i : TypeInfo) (z : Value) (size bytes : Nat) (ht : P.underlying t = some (.slice e)) (hi : P.info? e = some i) (hz : i.zero = some z)
    (hsize : i.size = size) (hby : i.bytes = bytes) (hzs : z.cells.size = size) (hsz : 0 < size) (v : Value) (n : Nat) (xs : List Value) (hs : a.eval s = v) (hown : w.ownsRow base e size v n xs)
    (xv : Value) (m : Nat) (news : List Value) (hx : a.eval x = xv) (hr : SlAt w xv m size news) (h1 : ∀ u ∈ news, u.oneCell' = true) (h63 : n + m ≤ maxLen) (hbytes : (n + m) * bytes ≤ 140737488355328) (hbase : base ≤ w.heap.size)
    (h : ∀ v' w', w'.ownsRow base e size v' (n + m) (xs ++ news) → w.grownBy w' v.ownBlock → (v'.ownBlock = v.ownBlock ∨ v'.ownBlock = some w.heap.size) → wpList P ops Q rest (a.put o.dst v') w') : wpList P ops Q (o :: rest) a w :=
  wpList_plain hgd fun _ hK => wp_append_sl w s x t ho base e i z size bytes ht hi hz hsize hby hzs hsz v n xs hs hown xv m news hx hr h1 h63 hbytes hbase fun v' w' h2 h3 h4 => hK _ _ (h v' w' h2 h3 h4)
theorem step_append_sl {P : Program} (w : World) {ops : Array Oper} {o : Oper} {a : Act} {K : Act → World → Prop} {Q : Exit → Act → World → Prop} {E : Prop} (hgd : o.guard = none) (s x : Operand) (t : TypeId)
    (ho : o.op = .call { callee := .builtin .append, args := #[s, x], argTypes := #[t, t] }) (base : Nat) (e : TypeId) (i : TypeInfo) (z : Value) (size bytes : Nat) (ht : P.underlying t = some (.slice e)) (hi : P.info? e = some i) (hz : i.zero = some z)
    (hsize : i.size = size) (hby : i.bytes = bytes) (hzs : z.cells.size = size) (hsz : 0 < size) (v : Value) (n : Nat) (xs : List Value) (hs : a.eval s = v) (hown : w.ownsRow base e size v n xs)
    (xv : Value) (m : Nat) (news : List Value) (hx : a.eval x = xv) (hr : SlAt w xv m size news) (h1 : ∀ u ∈ news, u.oneCell' = true) (h63 : n + m ≤ maxLen) (hbytes : (n + m) * bytes ≤ 140737488355328) (hbase : base ≤ w.heap.size)
    (h : ∀ v' w', w'.ownsRow base e size v' (n + m) (xs ++ news) → w.grownBy w' v.ownBlock → (v'.ownBlock = v.ownBlock ∨ v'.ownBlock = some w.heap.size) → K (a.put o.dst v') w') :
    if Region.wanted o (yielded ops a.tmps) = true then Oper.wp P o a w K Q else E := by
  have hw : Region.wanted o (yielded ops a.tmps) = true := by simp [Region.wanted, hgd]
  rw [if_pos hw]
  exact wp_append_sl w s x t ho base e i z size bytes ht hi hz hsize hby hzs hsz v n xs hs hown xv m news hx hr h1 h63 hbytes hbase h
/-- What is appended: one element in a new block. -/
theorem SlAt.new (w : World) (cs : Array Value) (T : TypeId) : SlAt (w.alloc (.cells cs T)) (.slice (some ⟨w.heap.size, 0, none⟩) 1 1) 1 cs.size cs.toList := by
  refine ⟨by simp, _, 1, rfl, Nat.le_refl _, (by unfold maxLen; omega), (fun h => by cases h), fun _ => ⟨w.heap.size, 0, rfl, fun j u hj => ?_⟩⟩
  rw [World.cell?_alloc_at _ _ _ _ rfl]
  simpa using hj
theorem SlAt.alloc {w : World} {v : Value} {n size : Nat} {cs : List Value} (h : SlAt w v n size cs) (o : Obj) : SlAt (w.alloc o) v n size cs := h.below ((Below.refl _ _).alloc (Nat.le_refl _) o)
theorem SlAt.drew {w : World} {v : Value} {n size : Nat} {cs : List Value} (h : SlAt w v n size cs) : SlAt w.drew v n size cs := h.below (Below.drew (Below.refl _ _))
/-- Cells below what is the call's own are as they were behind an append. -/
theorem own_far {w w' : World} {base : Nat} {e : TypeId} {size : Nat} {v : Value} {n : Nat} {xs : List Value} (hown : w.ownsRow base e size v n xs) (hg : w.grownBy w' v.ownBlock) {b o : Nat} {u : Value} (hb : b < base) (h : w.cell? ⟨b, o, none⟩ = some u) : w'.cell? ⟨b, o, none⟩ = some u := by
  rw [hg.cell_far _ (World.block_lt_of_cell? _ _ h) (fun e => ?_)]
  · exact h
  · have := (hown.lt b e.symm).1
    omega
theorem own_blk {w w' : World} {base : Nat} {e : TypeId} {size : Nat} {v : Value} {n : Nat} {xs : List Value} (hown : w.ownsRow base e size v n xs) (hg : w.grownBy w' v.ownBlock) {b : Nat} {o : Obj} (hb : b < base) (h : w.heap[b]? = some o) : w'.heap[b]? = some o := by
  rw [hg.block b (Array.getElem?_eq_some_iff.1 h).1 (fun e => ?_)]
  · exact h
  · have := (hown.lt b e.symm).1
    omega
theorem own_below {w w' : World} {base : Nat} {e : TypeId} {size : Nat} {v : Value} {n : Nat} {xs : List Value} (hown : w.ownsRow base e size v n xs) (hg : w.grownBy w' v.ownBlock) {w0 : World} (h0 : Below w0.heap.size w0 w) (hb : w0.heap.size ≤ base) : Below w0.heap.size w0 w' :=
  h0.grown hg (by have := h0.size; omega) (fun r e => by have := (hown.lt r e).1; omega)
end Go.Proofs.Ytdgeinipdphoeaa
/- Blocks of some cells: what is read of them, what a store leaves. -/
namespace Go.Proofs.Ytdgeinipdphoeaa
set_option linter.unusedVariables false
set_option linter.unusedSimpArgs false
open Go.RowKit

theorem blk_set {w : World} {b o : Nat} {cs : Array Value} {t : TypeId} {fz : Nat × Nat} {v : Value} (h : w.heap[b]? = some (.cells cs t fz)) : (w.setCell ⟨b, o, none⟩ v).heap[b]? = some (.cells (cs.setIfInBounds o v) t fz) := by
  have hlt := (Array.getElem?_eq_some_iff.1 h).1
  have h' : w.heap[b] = .cells cs t fz := by simpa [Array.getElem?_eq_getElem hlt] using h
  show (w.heap.modify b _)[b]? = _
  rw [Array.getElem?_eq_getElem (by simpa using hlt), Array.getElem_modify_self, h']
  rfl
theorem blk_cell {w : World} {b o : Nat} {cs : Array Value} {t : TypeId} {fz : Nat × Nat} (h : w.heap[b]? = some (.cells cs t fz)) : w.cell? ⟨b, o, none⟩ = cs[o]? := by simp [World.cell?, h]
theorem blk_free {w : World} {b o : Nat} {cs : Array Value} {t : TypeId} (h : w.heap[b]? = some (.cells cs t (0, 0))) : w.frozen? ⟨b, o, none⟩ = false := by simp [World.frozen?, h]
theorem blk_lt {w : World} {b : Nat} {o : Obj} (h : w.heap[b]? = some o) : b < w.heap.size := (Array.getElem?_eq_some_iff.1 h).1
end Go.Proofs.Ytdgeinipdphoeaa
/- A region that draws its order, whose operations read and whose callees make new blocks alone: one walk in the order of the text, over the worlds that hold what the first one held ('w.plus x'). -/
namespace Go.RowKit
/-- What a world may have besides: new blocks, another count of draws. -/
structure Ext where
  more : Array Obj
  drawn : Nat
instance : Nonempty Ext := ⟨⟨#[], 0⟩⟩
/-- The world w with new blocks behind its own, and another count of draws. -/
def World.plus (w : World) (x : Ext) : World := { w with heap := w.heap ++ x.more, drawn := x.drawn }
theorem World.plus_below (w : World) (x : Ext) : Below w.heap.size w (World.plus w x) :=
  ⟨rfl, rfl, rfl, by simp [World.plus], fun k hk => by simp [World.plus, Array.getElem?_append_left hk]⟩
theorem World.plus_of_below {w w' : World} (h : Below w.heap.size w w') : ∃ x, w' = World.plus w x := by
  refine ⟨⟨w'.heap.extract w.heap.size w'.heap.size, w'.drawn⟩, ?_⟩
  obtain ⟨h1, h2, h3, h4, h5⟩ := h
  have e : w.heap ++ w'.heap.extract w.heap.size w'.heap.size = w'.heap := by
    apply Array.ext_getElem?
    intro i
    by_cases hi : i < w.heap.size
    · rw [Array.getElem?_append_left hi, h5 i hi]
    · rw [Array.getElem?_append_right (by omega), Array.getElem?_extract]
      by_cases hj : i < w'.heap.size
      · rw [if_pos (by omega), show w.heap.size + (i - w.heap.size) = i from by omega]
      · rw [if_neg (by omega)]; simp; omega
  cases w'
  simp only [World.plus] at *
  simp [h1, h2, h3, e]
theorem World.plus_cell {w : World} {a : Addr} {v : Value} (h : w.cell? a = some v) (x : Ext) : (World.plus w x).cell? a = some v :=
  ((World.plus_below w x).cell (World.block_lt_of_cell? _ _ h)).trans h
theorem World.plus_drew (w : World) : ∃ x, { w with drawn := w.drawn + 1 } = World.plus w x := World.plus_of_below ⟨rfl, rfl, rfl, Nat.le_refl _, fun _ _ => rfl⟩
end Go.RowKit
namespace Go
open Go.RowKit
theorem Calls.plus_of {P : Program} {f : FuncId} {args : Array Value} {w : World} {x : Ext} {v : Value}
    (h : Calls P f args (World.plus w x) fun e w' => e = .returned v ∧ Below (World.plus w x).heap.size (World.plus w x) w') : Calls P f args (World.plus w x) fun e w'' => e = .returned v ∧ ∃ y, w'' = World.plus w y :=
  h.mono fun _ _ ⟨he, hb⟩ => ⟨he, World.plus_of_below ((World.plus_below w x).step hb)⟩
theorem Calls.plus_of_same {P : Program} {f : FuncId} {args : Array Value} {w : World} {x : Ext} {v : Value}
    (h : Calls P f args (World.plus w x) fun e w' => e = .returned v ∧ World.plus w x = w') : Calls P f args (World.plus w x) fun e w'' => e = .returned v ∧ ∃ y, w'' = World.plus w y :=
  h.mono fun _ _ ⟨he, hb⟩ => ⟨he, x, hb.symm⟩
theorem Calls.bool_is {P : Program} {f : FuncId} {args : Array Value} {w : World} {b v : Bool} {R : World → Prop} (h : Calls P f args w fun e w' => e = .returned (.bool b) ∧ R w') (hb : b = v) : Calls P f args w fun e w' => e = .returned (.bool v) ∧ R w' := hb ▸ h
theorem wp_region_plus {P : Program} {id : Nat} {Q : Exit → Act → World → Prop} {a : Act} {w : World} {l : List Oper} (hm : P.follows .mixedOrders = true) (hB : Region.lexB .any l.toArray = true)
    (h : wpQuiet P l.toArray (fun w' => ∃ x, w' = World.plus w x) (fun a' => ∀ w', (∃ x, w' = World.plus w x) → Q .normal a' w') l a) : (Code.region id l.toArray true).wp P Q a w :=
  wp_region_quiet (C := fun w' => ∃ x, w' = World.plus w x) hm hB (World.plus_drew w) (by simpa using h)
end Go
/- A region that draws its order, whose head reads and calls (the callees making new blocks alone) and whose last operations come in one order behind all the others (a store, an allocation, a writing call): one walk of the head over the worlds that hold what the first one held, then the tail in the order of the text. -/
namespace Go
open Go.RowKit
section
variable {P : Program} {ops : Array Oper} {md : Region.Mode} {C : World → Prop}

/-- The head, whatever order is picked: each operation quiet in the class; L behind f of them. -/
def wpHeadQ (P : Program) (md : Region.Mode) (ops : Array Oper) (C : World → Prop) (n : Nat) (L : Array Bool → Act → Prop) : Nat → Array Bool → Act → Prop
  | 0, listed, a => L listed a
  | f + 1, listed, a => Region.ready md ops listed ≠ [] ∧ ∀ i ∈ Region.ready md ops listed, i < n ∧ qOp P ops C i (wpHeadQ P md ops C n L f (listed.setIfInBounds i true)) a

theorem wpAny_of_headQ {n g : Nat} {L : Array Bool → Act → Prop} {Q' : Exit → Act → World → Prop} (hL : ∀ listed a w, C w → L listed a → wpAny P md ops Q' g listed a w) :
    ∀ (f : Nat) (listed : Array Bool) (a : Act) (w : World), C w → wpHeadQ P md ops C n L f listed a → wpAny P md ops Q' (f + g) listed a w
  | 0, listed, a, w, hw, h => by rw [Nat.zero_add]; exact hL _ _ _ hw h
  | f + 1, listed, a, w, hw, h => by
    rw [show f + 1 + g = (f + g) + 1 by omega]
    exact ⟨fun h0 => absurd h0 h.1, fun i hi => wpOp_of_qOp hw (fun a' w' hw' h' => wpAny_of_headQ hL f _ a' w' hw' h') (h.2 i hi).2⟩

theorem wpHeadQ_first {n i : Nat} {oi : Oper} {v : Value} {L : Array Bool → Act → Prop} (hi : ops[i]? = some oi) (hsel : ∀ (j : Nat) (o : Oper) cs b, ops[j]? = some o → o.op ≠ .select cs b)
    (hs : Region.sinkB md ops n = true) (hc : Region.chainB md ops n = true) (hn : n < ops.size) (hin : i < n) (hdone : ∀ listed a, L listed a → ∀ j ∈ Region.ready md ops listed, n ≤ j) :
    ∀ (f : Nat) (listed : Array Bool) (a : Act), HeadInv md ops n listed →
      (∀ j oj, ops[j]? = some oj → j ≠ i → listed.getD j true = false → (∀ e ∈ oj.after, Region.binds md e = true → e.on ≠ i) → oi.apart ops oj = true) →
      i ∈ Region.ready md ops listed → YieldsIn P ops C oi v a →
      wpHeadQ P md ops C n L f (listed.setIfInBounds i true) (a.put oi.dst v) → wpHeadQ P md ops C n L (f + 1) listed a := by
  intro f
  induction f with
  | zero =>
    intro listed a inv _ hr hy H
    have hun := (mem_ready.1 hr).1
    refine ⟨fun h => (by rw [h] at hr; cases hr), fun j hj => ?_⟩
    have hjn : j < n := Nat.lt_of_not_le fun h => tail_waits hs hc hn inv _ i rfl hin hun j h hj
    refine ⟨hjn, ?_⟩
    by_cases hji : j = i
    · subst hji; exact hy.qOp hi H
    · exact absurd (hdone _ _ H j (ready_mono hj hji)) (by omega)
  | succ f ih =>
    intro listed a inv hfree hr hy H
    have hun := (mem_ready.1 hr).1
    refine ⟨fun h => (by rw [h] at hr; cases hr), fun j hj => ?_⟩
    have hjn : j < n := Nat.lt_of_not_le fun h => tail_waits hs hc hn inv _ i rfl hin hun j h hj
    refine ⟨hjn, ?_⟩
    by_cases hji : j = i
    · subst hji; exact hy.qOp hi H
    · have h1 := (H.2 j (ready_mono hj hji)).2
      obtain ⟨hjun, oj, hoj, hall⟩ := mem_ready.1 hj
      have hnot : ∀ e ∈ oj.after, Region.binds md e = true → e.on ≠ i := fun e he hb heq => by
        have h1 := hall e he hb
        rw [heq, getD_both hun] at h1
        cases h1
      have h2 := qOp_put hoj (hfree j oj hoj hji hjun hnot) (fun cs b => hsel i oi cs b hi) (fun cs b => hsel j oj cs b hoj) hy h1
      have hfree' : ∀ k ok, ops[k]? = some ok → k ≠ i → (listed.setIfInBounds j true).getD k true = false →
          (∀ e ∈ ok.after, Region.binds md e = true → e.on ≠ i) → oi.apart ops ok = true := fun k ok hk hki hun hno => by
        refine hfree k ok hk hki ?_ hno
        by_cases hjk : j = k
        · subst hjk; exact hjun
        · rw [getD_set_ne true hjk] at hun; exact hun
      refine qOp_mono (fun a' h3 => ih (listed.setIfInBounds j true) a' (inv.set hj hjn) hfree' (ready_mono hr (Ne.symm hji)) h3.1 ?_) h2
      rw [Array.setIfInBounds_comm _ _ hji]
      exact h3.2

theorem wpHeadQ_lex {n g : Nat} {Lq : Act → Prop} (hsel : Region.noSelect ops = true) (hs : Region.sinkB md ops n = true) (hc : Region.chainB md ops n = true) (hn : n < ops.size) :
    ∀ (l : List Oper) (k : Nat) (listed : Array Bool) (a : Act), (∀ j, j < l.length → l[j]? = ops[k + j]?) → k + l.length = n → HeadInv md ops n listed →
    Region.lexHead md ops g l.length k listed = true → wpQuiet P ops C Lq l a → wpHeadQ P md ops C n (fun listed' a' => Region.seqB md ops g n listed' = true ∧ Lq a') l.length listed a
  | [], k, listed, a, _, hk, _, hB, h => by
    have : k = n := by simpa using hk
    subst this
    exact ⟨by simpa [Region.lexHead] using hB, h⟩
  | o :: l, k, listed, a, hl, hk, inv, hB, h => by
    have h0 : ops[k]? = some o := by simpa using (hl 0 (by simp)).symm
    simp only [List.length_cons, Region.lexHead, Bool.and_eq_true] at hB
    obtain ⟨⟨hr, hf⟩, hB'⟩ := hB
    have hkn : k < n := by simp only [List.length_cons] at hk; omega
    have hr' : k ∈ Region.ready md ops listed := by simpa using hr
    have hst : qOp P ops C k (wpQuiet P ops C Lq l) a := by unfold qOp; simp only [h0]; exact h
    obtain ⟨v, hy, hK⟩ := yieldsIn_of_qOp h0 hst
    exact wpHeadQ_first h0 (Region.noSelect_spec hsel) hs hc hn hkn (fun listed' a' hL => seqB_ready hL.1) l.length listed a inv (Region.free_spec h0 hf) hr' hy
      (wpHeadQ_lex hsel hs hc hn l (k + 1) _ _ (fun j hj => by have := hl (j + 1) (by simp; omega); simpa [Nat.add_assoc, Nat.add_comm 1 j] using this) (by simp only [List.length_cons] at hk; omega) (inv.set hr' hkn) hB' hK)

theorem wp_region_quiet_tail {id : Nat} {Q : Exit → Act → World → Prop} {a : Act} {w : World} {l : List Oper} (n : Nat) (hm : P.follows .mixedOrders = true) (hB : Region.lexTailB .any l.toArray n = true)
    (hC : C { w with drawn := w.drawn + 1 }) (h : wpQuiet P l.toArray C (fun a' => ∀ w', C w' → wpList P l.toArray Q (l.drop n) a' w') (l.take n) a) : (Code.region id l.toArray true).wp P Q a w := by
  simp only [Region.lexTailB, Bool.and_eq_true, decide_eq_true_eq] at hB
  obtain ⟨⟨⟨⟨hsel, hn⟩, hs⟩, hc⟩, hlex⟩ := hB
  have hn' : n < l.length := by simpa using hn
  have htl : (l.take n).length = n := by simp; omega
  have hdl : (l.drop n).length = l.toArray.size - n := by simp
  have inv0 : HeadInv .any l.toArray n (Array.replicate l.toArray.size false) :=
    ⟨by simp, fun j oj _ hl => (by rw [getD_replicate_false] at hl; cases hl), fun t _ ht => getD_in (by simpa using ht) (getD_replicate_false _ _)⟩
  have H := wpHeadQ_lex (md := .any) (C := C) (g := l.toArray.size - n) hsel hs hc hn (l.take n) 0 _ a (fun j hj => by
    have hj' : j < n := by rw [htl] at hj; exact hj
    simp [hj']) (by simpa using htl) inv0 (by rw [htl]; exact hlex) h
  refine wp_region_any hm ?_
  have := wpAny_of_headQ (Q' := Q) (g := l.toArray.size - n) (fun listed a' w' hw' hL => by
    have := wpAny_of_seq (md := .any) (Q' := Q) (l.drop n) n listed a' w' (fun j => by simp [List.getElem?_drop]) (by rw [hdl]; exact hL.1) (hL.2 w' hw')
    rwa [hdl] at this) _ _ _ _ hC H
  rw [htl, show n + (l.toArray.size - n) = l.toArray.size by omega] at this
  exact this

theorem wp_region_plus_tail {id : Nat} {Q : Exit → Act → World → Prop} {a : Act} {w : World} {l : List Oper} (n : Nat) (hm : P.follows .mixedOrders = true) (hB : Region.lexTailB .any l.toArray n = true)
    (h : wpQuiet P l.toArray (fun w' => ∃ x, w' = World.plus w x) (fun a' => ∀ w', (∃ x, w' = World.plus w x) → wpList P l.toArray Q (l.drop n) a' w') (l.take n) a) : (Code.region id l.toArray true).wp P Q a w :=
  wp_region_quiet_tail (C := fun w' => ∃ x, w' = World.plus w x) n hm hB (World.plus_drew w) h
end
end Go
/- A region that draws its order, of three kinds of operations: some that read what is the same in each world of a class (they are taken first), some that come in one order and keep the class, some that come in one order behind all those that read: one walk. -/
namespace Go
section
variable {P : Program} {ops : Array Oper} {Q : Exit → Act → World → Prop} {md : Region.Mode} {S : World → Prop} {E : Nat → Bool}

/-- Does one wait for another, directly or through others? -/
def needsB (md : Region.Mode) (ops : Array Oper) : Nat → Nat → Nat → Bool
  | 0, _, _ => false
  | f + 1, j, i => match ops[j]? with
    | none => false
    | some oj => oj.after.any fun e => Region.binds md e && (e.on == i || needsB md ops f e.on i)
def ClosedL (md : Region.Mode) (ops : Array Oper) (listed : Array Bool) : Prop := ∀ j oj, ops[j]? = some oj → listed.getD j false = true → ∀ e ∈ oj.after, Region.binds md e = true → listed.getD e.on false = true
theorem ClosedL.set {listed : Array Bool} {i : Nat} (h : ClosedL md ops listed) (hi : i ∈ Region.ready md ops listed) : ClosedL md ops (listed.setIfInBounds i true) := by
  obtain ⟨_, oi, hoi, hall⟩ := mem_ready.1 hi
  intro j oj hj hl e he hb
  by_cases hij : i = j
  · subst hij
    have : oj = oi := Option.some.inj (hj.symm.trans hoi)
    subst this
    exact getD_set_true (hall e he hb)
  · rw [getD_set_ne false hij] at hl
    exact getD_set_true (h j oj hj hl e he hb)
theorem needs_listed {listed : Array Bool} {i : Nat} (hcl : ClosedL md ops listed) : ∀ (f j : Nat), needsB md ops f j i = true → (∀ oj, ops[j]? = some oj → ∀ e ∈ oj.after, Region.binds md e = true → listed.getD e.on false = true) → listed.getD i false = true
  | 0, _, h, _ => by simp [needsB] at h
  | f + 1, j, h, ha => by
    unfold needsB at h
    split at h
    · cases h
    · rename_i oj hoj
      obtain ⟨e, he, hb⟩ := Array.any_eq_true'.1 h
      simp only [Bool.and_eq_true, Bool.or_eq_true, beq_iff_eq] at hb
      have hl := ha oj hoj e he hb.1
      rcases hb.2 with h2 | h2
      · rw [← h2]; exact hl
      · exact needs_listed hcl f e.on h2 (fun ok hk e' he' hb' => hcl e.on ok hk hl e' he' hb')

/-- One of those numbers? -/
def exE (EX : List Nat) (j : Nat) : Bool := EX.contains j
/-- Whatever order is picked; behind each operation that is not of E the class holds. -/
def wpMix (P : Program) (md : Region.Mode) (ops : Array Oper) (Q : Exit → Act → World → Prop) (S : World → Prop) (E : Nat → Bool) : Nat → Array Bool → Act → World → Prop
  | 0, listed, a, w => Region.ready md ops listed = [] ∧ Q .normal a w
  | fuel + 1, listed, a, w =>
    (Region.ready md ops listed = [] → Q .normal a w) ∧
    ∀ i ∈ Region.ready md ops listed, wpOp P ops Q i (fun a' w' => (E i = false → S w') ∧ wpMix P md ops Q S E fuel (listed.setIfInBounds i true) a' w') a w
theorem wpAny_of_some : ∀ (fuel : Nat) (listed : Array Bool) (a : Act) (w : World), wpMix P md ops Q S E fuel listed a w → wpAny P md ops Q fuel listed a w
  | 0, _, _, _, h => h
  | fuel + 1, _, _, _, h => ⟨h.1, fun i hi => wpOp_mono (fun a' w' h' => wpAny_of_some fuel _ a' w' h'.2) (h.2 i hi)⟩
theorem wp_region_some {id : Nat} {l : List Oper} {a : Act} {w : World} (S : World → Prop) (EX : List Nat) (hm : P.follows .mixedOrders = true)
    (h : wpMix P .any l.toArray Q S (exE EX) l.length (Array.replicate l.length false) a w.drew) : (Code.region id l.toArray true).wp P Q a w :=
  wp_region_any hm (wpAny_of_some (S := S) (E := exE EX) _ _ _ _ (by simpa using h))

theorem wpMix_first {i : Nat} {oi : Oper} {v : Value} {T : World → Prop} (hi : ops[i]? = some oi) (hsel : ∀ (j : Nat) (o : Oper) cs b, ops[j]? = some o → o.op ≠ .select cs b)
    (hQ : ∀ c a w, Q (.panic c) (a.put oi.dst v) w → Q (.panic c) a w) (hTS : ∀ w, T w → E i = false → S w) (hST : ∀ w, S w → T w) :
    ∀ (fuel : Nat) (listed : Array Bool) (a : Act) (w : World), ClosedL md ops listed → ((∀ w, T w) ∨ ∀ j, E j = true → listed.getD j false = true ∨ ∃ f, needsB md ops f j i = true) →
      (∀ j oj, ops[j]? = some oj → j ≠ i → listed.getD j true = false → (∀ e ∈ oj.after, Region.binds md e = true → e.on ≠ i) → oi.apart ops oj = true) →
      i ∈ Region.ready md ops listed → YieldsIf P ops T oi v a → T w →
      wpMix P md ops Q S E fuel (listed.setIfInBounds i true) (a.put oi.dst v) w → wpMix P md ops Q S E (fuel + 1) listed a w := by
  intro fuel
  induction fuel with
  | zero =>
    intro listed a w _ _ _ hr hy hS H
    refine ⟨fun h => (by rw [h] at hr; cases hr), fun j hj => ?_⟩
    by_cases hji : j = i
    · subst hji; exact hy.wpOp hi hS ⟨hTS w hS, H⟩
    · have := ready_mono hj hji
      rw [H.1] at this
      cases this
  | succ fuel ih =>
    intro listed a w hcl hET hfree hr hy hS H
    refine ⟨fun h => (by rw [h] at hr; cases hr), fun j hj => ?_⟩
    by_cases hji : j = i
    · subst hji; exact hy.wpOp hi hS ⟨hTS w hS, H⟩
    · have h1 := H.2 j (ready_mono hj hji)
      obtain ⟨hjun, oj, hoj, hall⟩ := mem_ready.1 hj
      have hun : listed.getD i false = false := getD_both (mem_ready.1 hr).1
      have hnot : ∀ e ∈ oj.after, Region.binds md e = true → e.on ≠ i := fun e he hb heq => by
        have h1 := hall e he hb
        rw [heq, hun] at h1
        cases h1
      have h2 := wpOp_putIf hoj (hfree j oj hoj hji hjun hnot) (fun cs b => hsel i oi cs b hi) (fun cs b => hsel j oj cs b hoj) hQ hy h1
      have hfree' : ∀ k ok, ops[k]? = some ok → k ≠ i → (listed.setIfInBounds j true).getD k true = false →
          (∀ e ∈ ok.after, Region.binds md e = true → e.on ≠ i) → oi.apart ops ok = true := fun k ok hk hki hun hno => by
        refine hfree k ok hk hki ?_ hno
        by_cases hjk : j = k
        · subst hjk; exact hjun
        · rw [getD_set_ne true hjk] at hun; exact hun
      have hTw : ∀ w', (E j = false → S w') → T w' := fun w' hw' => by
        rcases hET with h | h
        · exact h w'
        · cases hEj : E j with
          | false => exact hST w' (hw' hEj)
          | true =>
            rcases h j hEj with h | ⟨f, h⟩
            · rw [getD_both hjun] at h; cases h
            · have h3 := needs_listed hcl f j h (fun ok hk e he hb => by
                have : ok = oj := Option.some.inj (hk.symm.trans hoj)
                subst this
                exact hall e he hb)
              rw [hun] at h3
              cases h3
      refine wpOp_mono (fun a' w' h3 => ⟨h3.2.1, ih (listed.setIfInBounds j true) a' w' (hcl.set hj) (hET.imp_right fun h k hk => (h k hk).imp_left getD_set_true) hfree' (ready_mono hr (Ne.symm hji)) h3.1 (hTw w' h3.2.1) ?_⟩) h2
      rw [Array.setIfInBounds_comm _ _ hji]
      exact h3.2.2

def closedB (md : Region.Mode) (ops : Array Oper) (listed : Array Bool) : Bool :=
  (List.range ops.size).all fun j => !listed.getD j false || match ops[j]? with
    | some oj => oj.after.all fun e => !Region.binds md e || listed.getD e.on false
    | none => true
theorem closedB_spec {listed : Array Bool} (h : closedB md ops listed = true) : ClosedL md ops listed := by
  intro j oj hj hl e he hb
  unfold closedB at h
  rw [List.all_eq_true] at h
  have h1 := h j (List.mem_range.2 (Array.getElem?_eq_some_iff.1 hj).1)
  simp only [hj, hl, Bool.not_true, Bool.false_or] at h1
  have := Array.all_eq_true_iff_forall_mem.1 h1 e he
  simpa [hb] using this
/-- One that reads what is the same in each world of the class; those of EX wait for it. -/
theorem wpMix_take {EX : List Nat} {i : Nat} {oi : Oper} {v : Value} {fuel : Nat} {listed : Array Bool} {a : Act} {w : World} (hi : ops[i]? = some oi)
    (hB : (Region.noSelect ops && (closedB md ops listed && (Region.free md ops listed i && ((Region.ready md ops listed).contains i && EX.all fun j => listed.getD j false || needsB md ops ops.size j i)))) = true)
    (hQ : ∀ c a w, Q (.panic c) (a.put oi.dst v) w → Q (.panic c) a w) (hy : YieldsIf P ops S oi v a) (hS : S w)
    (h : wpMix P md ops Q S (exE EX) fuel (listed.setIfInBounds i true) (a.put oi.dst v) w) : wpMix P md ops Q S (exE EX) (fuel + 1) listed a w := by
  simp only [Bool.and_eq_true] at hB
  obtain ⟨hs, hc, hf, hr, hE⟩ := hB
  refine wpMix_first (T := S) hi (Region.noSelect_spec hs) hQ (fun _ h _ => h) (fun _ h => h) fuel listed a w (closedB_spec hc) (.inr fun j hj => ?_) (Region.free_spec hi hf) (by simpa using hr) hy hS h
  have := List.all_eq_true.1 hE j (by simpa [exE] using hj)
  rw [Bool.or_eq_true] at this
  exact this.imp_right fun h => ⟨_, h⟩
/-- One that looks at no world; it is of EX. -/
theorem wpMix_free {EX : List Nat} {i : Nat} {oi : Oper} {v : Value} {fuel : Nat} {listed : Array Bool} {a : Act} {w : World} (hi : ops[i]? = some oi)
    (hB : (Region.noSelect ops && (closedB md ops listed && (Region.free md ops listed i && ((Region.ready md ops listed).contains i && EX.contains i)))) = true)
    (hQ : ∀ c a w, Q (.panic c) (a.put oi.dst v) w → Q (.panic c) a w) (hy : YieldsIf P ops (fun _ => True) oi v a)
    (h : wpMix P md ops Q S (exE EX) fuel (listed.setIfInBounds i true) (a.put oi.dst v) w) : wpMix P md ops Q S (exE EX) (fuel + 1) listed a w := by
  simp only [Bool.and_eq_true] at hB
  obtain ⟨hs, hc, hf, hr, hE⟩ := hB
  exact wpMix_first (T := fun _ => True) hi (Region.noSelect_spec hs) hQ (fun _ _ h => by unfold exE at h; rw [hE] at h; cases h) (fun _ _ => trivial) fuel listed a w (closedB_spec hc) (.inl fun _ => trivial) (Region.free_spec hi hf) (by simpa using hr) hy trivial h
/-- The operations at some places. -/
def opsAt (l : List Oper) (T : List Nat) : List Oper := T.flatMap fun t => (l.drop t).take 1
/-- The next one is the only one that may come up, and keeps the class. -/
def NextS (P : Program) (md : Region.Mode) (ops : Array Oper) (Q : Exit → Act → World → Prop) (S : World → Prop) (E : Nat → Bool) (fuel : Nat) (listed : Array Bool) : Exit → Act → World → Prop
  | .normal, a, w => S w ∧ wpMix P md ops Q S E fuel listed a w
  | e, a, w => Q e a w
theorem opsAt_one {l : List Oper} {t : Nat} {o : Oper} (h : l.toArray[t]? = some o) : opsAt l [t] = [o] := by
  have h2 : l[t]? = some o := by simpa using h
  obtain ⟨hlt, he⟩ := List.getElem?_eq_some_iff.1 h2
  unfold opsAt
  rw [List.flatMap_cons, List.flatMap_nil, List.append_nil, List.drop_eq_getElem_cons hlt, List.take_succ_cons, List.take_zero, he]
theorem wpOp_of_list {l : List Oper} {t : Nat} {a : Act} {w : World} {Q' : Exit → Act → World → Prop} (ht : t < l.length) (hp : ∀ e a w, e ≠ .normal → Q' e a w → Q e a w) (hlo : LetsOut Q' → LetsOut Q)
    (h : wpList P l.toArray Q' (opsAt l [t]) a w) : wpOp P l.toArray Q t (Q' .normal) a w := by
  have h0 : l.toArray[t]? = some l[t] := by simp [ht]
  rw [opsAt_one h0] at h
  unfold wpOp
  simp only [h0]
  have h' : (if Region.wanted l[t] (yielded l.toArray a.tmps) then l[t].wp P a w (wpList P l.toArray Q' []) Q' ∨ (l[t].asks P a w ∧ LetsOut Q') else wpList P l.toArray Q' [] (a.put l[t].dst undef) w) := h
  split
  · rename_i hw
    rw [if_pos hw] at h'
    rcases h' with h' | ⟨h1, h2⟩
    · refine .inl ?_
      unfold Oper.wp at *
      generalize (execOp a.eval l[t]).run P w = r at *
      cases r with
      | ok n w' =>
        cases n <;> simp only [Oper.upon] at h' ⊢
        case value u => exact h'
        case skip => exact h'
        case defer d => exact h'
        case enter f args =>
          refine Calls.mono h' fun e w'' he => ?_
          cases e with
          | returned u => exact he
          | panicked c => exact hp _ _ _ (by simp) he
          | outgrown => exact hlo he
        case row row args => exact Rows.mono h' fun u w'' he => he
      | halt x w' =>
        cases x <;> simp only [Oper.upon] at h' ⊢
        case panic u => exact hp _ _ _ (by simp) h'
    · exact .inr ⟨h1, hlo h2⟩
  · rename_i hw
    rw [if_neg hw] at h'
    exact h'
theorem wpMix_next {EX : List Nat} {l : List Oper} {t fuel : Nat} {listed : Array Bool} {a : Act} {w : World} (hB : (decide (t < l.length) && (Region.ready md l.toArray listed == [t])) = true)
    (h : wpList P l.toArray (NextS P md l.toArray Q S (exE EX) fuel (listed.setIfInBounds t true)) (opsAt l [t]) a w) : wpMix P md l.toArray Q S (exE EX) (fuel + 1) listed a w := by
  simp only [Bool.and_eq_true, decide_eq_true_eq, beq_iff_eq] at hB
  obtain ⟨ht, hr⟩ := hB
  refine ⟨fun h0 => (by rw [hr] at h0; cases h0), fun i hi => ?_⟩
  rw [hr] at hi
  obtain rfl : i = t := by simpa using hi
  refine wpOp_mono (fun a' w' h' => ⟨fun _ => h'.1, h'.2⟩) (wpOp_of_list (Q := Q) (Q' := NextS P md l.toArray Q S (exE EX) fuel (listed.setIfInBounds i true)) ht (fun e a w hne h => ?_) (fun ⟨a, w, h⟩ => ⟨a, w, h⟩) h)
  cases e <;> first | exact absurd rfl hne | exact h
/-- One of some comes next. -/
theorem wpMix_pick {EX : List Nat} {l : List Oper} {fuel : Nat} {listed : Array Bool} {a : Act} {w : World} (T : List Nat) (hB : ((T.all fun t => decide (t < l.length)) && (Region.ready md l.toArray listed == T)) = true)
    (h : ∀ t ∈ T, wpList P l.toArray (NextS P md l.toArray Q S (exE EX) fuel (listed.setIfInBounds t true)) (opsAt l [t]) a w) (hT : T ≠ []) : wpMix P md l.toArray Q S (exE EX) (fuel + 1) listed a w := by
  simp only [Bool.and_eq_true, List.all_eq_true, decide_eq_true_eq, beq_iff_eq] at hB
  obtain ⟨ht, hr⟩ := hB
  refine ⟨fun h0 => absurd (hr.symm.trans h0) hT, fun i hi => ?_⟩
  rw [hr] at hi
  refine wpOp_mono (fun a' w' h' => ⟨fun _ => h'.1, h'.2⟩) (wpOp_of_list (Q := Q) (Q' := NextS P md l.toArray Q S (exE EX) fuel (listed.setIfInBounds i true)) (ht i hi) (fun e a w hne h => ?_) (fun ⟨a, w, h⟩ => ⟨a, w, h⟩) (h i hi))
  cases e <;> first | exact absurd rfl hne | exact h
theorem pick_two {P : Nat → Prop} {a b : Nat} (h1 : P a) (h2 : P b) : ∀ t ∈ [a, b], P t := by
  intro t ht
  simp only [List.mem_cons, List.not_mem_nil, or_false] at ht
  rcases ht with rfl | rfl
  · exact h1
  · exact h2
theorem pick_three {P : Nat → Prop} {a b c : Nat} (h1 : P a) (h2 : P b) (h3 : P c) : ∀ t ∈ [a, b, c], P t := by
  intro t ht
  simp only [List.mem_cons, List.not_mem_nil, or_false] at ht
  rcases ht with rfl | rfl | rfl
  · exact h1
  · exact h2
  · exact h3
/-- The rest comes in one order. -/
def restB (md : Region.Mode) (l : List Oper) : List Nat → Array Bool → Bool
  | [], listed => Region.ready md l.toArray listed == []
  | t :: T, listed => decide (t < l.length) && (Region.ready md l.toArray listed == [t]) && restB md l T (listed.setIfInBounds t true)
theorem wpAny_rest {l : List Oper} : ∀ (T : List Nat) (listed : Array Bool) (a : Act) (w : World), restB md l T listed = true → wpList P l.toArray Q (opsAt l T) a w → wpAny P md l.toArray Q T.length listed a w
  | [], listed, a, w, hB, h => ⟨by simpa [restB] using hB, h⟩
  | t :: T, listed, a, w, hB, h => by
    simp only [restB, Bool.and_eq_true, decide_eq_true_eq, beq_iff_eq] at hB
    obtain ⟨⟨ht, hr⟩, hB⟩ := hB
    refine ⟨fun h0 => (by rw [hr] at h0; cases h0), fun i hi => ?_⟩
    rw [hr] at hi
    obtain rfl : i = t := by simpa using hi
    have h0 : l.toArray[i]? = some l[i] := by simp [ht]
    have e : opsAt l (i :: T) = l[i] :: opsAt l T := by
      have := opsAt_one h0
      unfold opsAt at this ⊢
      simp only [List.flatMap_cons, List.flatMap_nil, List.append_nil] at this ⊢
      rw [this]; rfl
    rw [e] at h
    have h' : (if Region.wanted l[i] (yielded l.toArray a.tmps) then l[i].wp P a w (wpList P l.toArray Q (opsAt l T)) Q ∨ (l[i].asks P a w ∧ LetsOut Q) else wpList P l.toArray Q (opsAt l T) (a.put l[i].dst undef) w) := h
    have h2 : wpOp P l.toArray Q i (wpList P l.toArray Q (opsAt l T)) a w := by
      unfold wpOp
      simp only [h0]
      exact h'
    exact wpOp_mono (fun a' w' h3 => wpAny_rest T _ a' w' hB h3) h2
theorem wpMix_of_any {EX : List Nat} : ∀ (fuel : Nat) (listed : Array Bool) (a : Act) (w : World), (∀ j, ops[j]? ≠ none → listed.getD j true = false → EX.contains j = true) → wpAny P md ops Q fuel listed a w → wpMix P md ops Q S (exE EX) fuel listed a w
  | 0, _, _, _, _, h => h
  | fuel + 1, listed, a, w, hE, h => ⟨h.1, fun i hi => by
    have hri := mem_ready.1 hi
    refine wpOp_mono (fun a' w' h' => ⟨fun he => ?_, wpMix_of_any fuel _ a' w' (fun j hj hl => hE j hj ?_) h'⟩) (h.2 i hi)
    · obtain ⟨hl, oi, hoi, _⟩ := hri
      have := hE i (by rw [hoi]; simp) hl
      unfold exE at he
      rw [this] at he
      cases he
    · by_cases hij : i = j
      · subst hij
        exact hri.1
      · rwa [getD_set_ne true hij] at hl⟩
theorem wpMix_rest {EX : List Nat} {l : List Oper} {fuel : Nat} {listed : Array Bool} {a : Act} {w : World} (T : List Nat) (hB : (restB md l T listed && ((T.length == fuel) && (List.range l.length).all fun j => listed.getD j true || EX.contains j)) = true)
    (h : wpList P l.toArray Q (opsAt l T) a w) : wpMix P md l.toArray Q S (exE EX) fuel listed a w := by
  simp only [Bool.and_eq_true, beq_iff_eq] at hB
  obtain ⟨h1, h2, h3⟩ := hB
  subst h2
  refine wpMix_of_any _ _ _ _ (fun j hj hl => ?_) (wpAny_rest T listed a w h1 h)
  have hlt : j < l.length := by
    rcases Nat.lt_or_ge j l.length with h | h
    · exact h
    · exact absurd (by simp [h]) hj
  have := List.all_eq_true.1 h3 j (List.mem_range.2 hlt)
  rw [hl, Bool.false_or] at this
  exact this
end
end Go
/- A region that draws its order, with two classes of worlds: each operation keeps a class, but for those that are told; what reads in a class is taken first if those that do not keep it wait for it. -/
namespace Go
section
variable {P : Program} {ops : Array Oper} {Q : Exit → Act → World → Prop} {md : Region.Mode} {S1 S2 : World → Prop} {E1 E2 : List Nat}

def keepsC (S1 S2 : World → Prop) (E1 E2 : List Nat) (i : Nat) (w w' : World) : Prop := (E1.contains i = false → S1 w → S1 w') ∧ (E2.contains i = false → S2 w → S2 w')
def wpMu (P : Program) (md : Region.Mode) (ops : Array Oper) (Q : Exit → Act → World → Prop) (S1 S2 : World → Prop) (E1 E2 : List Nat) : Nat → Array Bool → Act → World → Prop
  | 0, listed, a, w => Region.ready md ops listed = [] ∧ Q .normal a w
  | fuel + 1, listed, a, w =>
    (Region.ready md ops listed = [] → Q .normal a w) ∧
    ∀ i ∈ Region.ready md ops listed, wpOp P ops Q i (fun a' w' => keepsC S1 S2 E1 E2 i w w' ∧ wpMu P md ops Q S1 S2 E1 E2 fuel (listed.setIfInBounds i true) a' w') a w
theorem wpAny_of_mu : ∀ (fuel : Nat) (listed : Array Bool) (a : Act) (w : World), wpMu P md ops Q S1 S2 E1 E2 fuel listed a w → wpAny P md ops Q fuel listed a w
  | 0, _, _, _, h => h
  | fuel + 1, _, _, _, h => ⟨h.1, fun i hi => wpOp_mono (fun a' w' h' => wpAny_of_mu fuel _ a' w' h'.2) (h.2 i hi)⟩
theorem wp_region_two {id : Nat} {l : List Oper} {a : Act} {w : World} (S1 S2 : World → Prop) (E1 E2 : List Nat) (hm : P.follows .mixedOrders = true)
    (h : wpMu P .any l.toArray Q S1 S2 E1 E2 l.length (Array.replicate l.length false) a w.drew) : (Code.region id l.toArray true).wp P Q a w :=
  wp_region_any hm (wpAny_of_mu (S1 := S1) (S2 := S2) (E1 := E1) (E2 := E2) _ _ _ _ (by simpa using h))

theorem wpMu_first {i : Nat} {oi : Oper} {v : Value} {T : World → Prop} (hi : ops[i]? = some oi) (hsel : ∀ (j : Nat) (o : Oper) cs b, ops[j]? = some o → o.op ≠ .select cs b)
    (hQ : ∀ c a w, Q (.panic c) (a.put oi.dst v) w → Q (.panic c) a w) (X : List Nat) (hX : ∀ j w w', X.contains j = false → keepsC S1 S2 E1 E2 j w w' → T w → T w') :
    ∀ (fuel : Nat) (listed : Array Bool) (a : Act) (w : World), ClosedL md ops listed → (∀ j, X.contains j = true → listed.getD j false = true ∨ ∃ f, needsB md ops f j i = true) →
      (∀ j oj, ops[j]? = some oj → j ≠ i → listed.getD j true = false → (∀ e ∈ oj.after, Region.binds md e = true → e.on ≠ i) → oi.apart ops oj = true) →
      i ∈ Region.ready md ops listed → YieldsIf P ops T oi v a → T w →
      wpMu P md ops Q S1 S2 E1 E2 fuel (listed.setIfInBounds i true) (a.put oi.dst v) w → wpMu P md ops Q S1 S2 E1 E2 (fuel + 1) listed a w := by
  intro fuel
  induction fuel with
  | zero =>
    intro listed a w _ _ _ hr hy hS H
    refine ⟨fun h => (by rw [h] at hr; cases hr), fun j hj => ?_⟩
    by_cases hji : j = i
    · subst hji; exact hy.wpOp hi hS ⟨⟨fun _ h => h, fun _ h => h⟩, H⟩
    · have := ready_mono hj hji
      rw [H.1] at this
      cases this
  | succ fuel ih =>
    intro listed a w hcl hET hfree hr hy hS H
    refine ⟨fun h => (by rw [h] at hr; cases hr), fun j hj => ?_⟩
    by_cases hji : j = i
    · subst hji; exact hy.wpOp hi hS ⟨⟨fun _ h => h, fun _ h => h⟩, H⟩
    · have h1 := H.2 j (ready_mono hj hji)
      obtain ⟨hjun, oj, hoj, hall⟩ := mem_ready.1 hj
      have hun : listed.getD i false = false := getD_both (mem_ready.1 hr).1
      have hnot : ∀ e ∈ oj.after, Region.binds md e = true → e.on ≠ i := fun e he hb heq => by
        have h1 := hall e he hb
        rw [heq, hun] at h1
        cases h1
      have h2 := wpOp_putIf hoj (hfree j oj hoj hji hjun hnot) (fun cs b => hsel i oi cs b hi) (fun cs b => hsel j oj cs b hoj) hQ hy h1
      have hfree' : ∀ k ok, ops[k]? = some ok → k ≠ i → (listed.setIfInBounds j true).getD k true = false →
          (∀ e ∈ ok.after, Region.binds md e = true → e.on ≠ i) → oi.apart ops ok = true := fun k ok hk hki hun hno => by
        refine hfree k ok hk hki ?_ hno
        by_cases hjk : j = k
        · subst hjk; exact hjun
        · rw [getD_set_ne true hjk] at hun; exact hun
      have hTw : ∀ w', keepsC S1 S2 E1 E2 j w w' → T w' := fun w' hw' => by
        cases hXj : X.contains j with
        | false => exact hX j w w' hXj hw' hS
        | true =>
          rcases hET j hXj with h | ⟨f, h⟩
          · rw [getD_both hjun] at h; cases h
          · have h3 := needs_listed hcl f j h (fun ok hk e he hb => by
              have : ok = oj := Option.some.inj (hk.symm.trans hoj)
              subst this
              exact hall e he hb)
            rw [hun] at h3
            cases h3
      refine wpOp_mono (fun a' w' h3 => ⟨h3.2.1, ih (listed.setIfInBounds j true) a' w' (hcl.set hj) (fun k hk => (hET k hk).imp_left getD_set_true) hfree' (ready_mono hr (Ne.symm hji)) h3.1 (hTw w' h3.2.1) ?_⟩) h2
      rw [Array.setIfInBounds_comm _ _ hji]
      exact h3.2.2
theorem wpMu_takeX {X : List Nat} {T : World → Prop} {i : Nat} {oi : Oper} {v : Value} {fuel : Nat} {listed : Array Bool} {a : Act} {w : World} (hX : ∀ j w w', X.contains j = false → keepsC S1 S2 E1 E2 j w w' → T w → T w') (hi : ops[i]? = some oi)
    (hB : (Region.noSelect ops && (closedB md ops listed && (Region.free md ops listed i && ((Region.ready md ops listed).contains i && X.all fun j => listed.getD j false || needsB md ops ops.size j i)))) = true)
    (hQ : ∀ c a w, Q (.panic c) (a.put oi.dst v) w → Q (.panic c) a w) (hy : YieldsIf P ops T oi v a) (hS : T w)
    (h : wpMu P md ops Q S1 S2 E1 E2 fuel (listed.setIfInBounds i true) (a.put oi.dst v) w) : wpMu P md ops Q S1 S2 E1 E2 (fuel + 1) listed a w := by
  simp only [Bool.and_eq_true] at hB
  obtain ⟨hs, hc, hf, hr, hE⟩ := hB
  refine wpMu_first hi (Region.noSelect_spec hs) hQ X hX fuel listed a w (closedB_spec hc) (fun j hj => ?_) (Region.free_spec hi hf) (by simpa using hr) hy hS h
  have := List.all_eq_true.1 hE j (by simpa using hj)
  rw [Bool.or_eq_true] at this
  exact this.imp_right fun h => ⟨_, h⟩
/-- One that reads what is the same in each world of the first class. -/
theorem wpMu_take1 {i : Nat} {oi : Oper} {v : Value} {fuel : Nat} {listed : Array Bool} {a : Act} {w : World} (hi : ops[i]? = some oi)
    (hB : (Region.noSelect ops && (closedB md ops listed && (Region.free md ops listed i && ((Region.ready md ops listed).contains i && E1.all fun j => listed.getD j false || needsB md ops ops.size j i)))) = true)
    (hQ : ∀ c a w, Q (.panic c) (a.put oi.dst v) w → Q (.panic c) a w) (hy : YieldsIf P ops S1 oi v a) (hS : S1 w)
    (h : wpMu P md ops Q S1 S2 E1 E2 fuel (listed.setIfInBounds i true) (a.put oi.dst v) w) : wpMu P md ops Q S1 S2 E1 E2 (fuel + 1) listed a w :=
  wpMu_takeX (X := E1) (T := S1) (fun _ _ _ hx hk hT => hk.1 hx hT) hi hB hQ hy hS h
/-- One that reads what is the same in each world of the second class. -/
theorem wpMu_take2 {i : Nat} {oi : Oper} {v : Value} {fuel : Nat} {listed : Array Bool} {a : Act} {w : World} (hi : ops[i]? = some oi)
    (hB : (Region.noSelect ops && (closedB md ops listed && (Region.free md ops listed i && ((Region.ready md ops listed).contains i && E2.all fun j => listed.getD j false || needsB md ops ops.size j i)))) = true)
    (hQ : ∀ c a w, Q (.panic c) (a.put oi.dst v) w → Q (.panic c) a w) (hy : YieldsIf P ops S2 oi v a) (hS : S2 w)
    (h : wpMu P md ops Q S1 S2 E1 E2 fuel (listed.setIfInBounds i true) (a.put oi.dst v) w) : wpMu P md ops Q S1 S2 E1 E2 (fuel + 1) listed a w :=
  wpMu_takeX (X := E2) (T := S2) (fun _ _ _ hx hk hT => hk.2 hx hT) hi hB hQ hy hS h
/-- One that looks at no world. -/
theorem wpMu_free {i : Nat} {oi : Oper} {v : Value} {fuel : Nat} {listed : Array Bool} {a : Act} {w : World} (hi : ops[i]? = some oi)
    (hB : (Region.noSelect ops && (closedB md ops listed && (Region.free md ops listed i && ((Region.ready md ops listed).contains i && ([] : List Nat).all fun j => listed.getD j false || needsB md ops ops.size j i)))) = true)
    (hQ : ∀ c a w, Q (.panic c) (a.put oi.dst v) w → Q (.panic c) a w) (hy : YieldsIf P ops (fun _ => True) oi v a)
    (h : wpMu P md ops Q S1 S2 E1 E2 fuel (listed.setIfInBounds i true) (a.put oi.dst v) w) : wpMu P md ops Q S1 S2 E1 E2 (fuel + 1) listed a w :=
  wpMu_takeX (X := []) (T := fun _ => True) (fun _ _ _ _ _ _ => trivial) hi hB hQ hy trivial h
/-- The next one. -/
def NextM (P : Program) (md : Region.Mode) (ops : Array Oper) (Q : Exit → Act → World → Prop) (S1 S2 : World → Prop) (E1 E2 : List Nat) (i : Nat) (w0 : World) (fuel : Nat) (listed : Array Bool) : Exit → Act → World → Prop
  | .normal, a, w => keepsC S1 S2 E1 E2 i w0 w ∧ wpMu P md ops Q S1 S2 E1 E2 fuel listed a w
  | e, a, w => Q e a w
theorem wpMu_pick {l : List Oper} {fuel : Nat} {listed : Array Bool} {a : Act} {w : World} (T : List Nat) (hB : ((T.all fun t => decide (t < l.length)) && (Region.ready md l.toArray listed == T)) = true)
    (h : ∀ t ∈ T, wpList P l.toArray (NextM P md l.toArray Q S1 S2 E1 E2 t w fuel (listed.setIfInBounds t true)) (opsAt l [t]) a w) (hT : T ≠ []) : wpMu P md l.toArray Q S1 S2 E1 E2 (fuel + 1) listed a w := by
  simp only [Bool.and_eq_true, List.all_eq_true, decide_eq_true_eq, beq_iff_eq] at hB
  obtain ⟨ht, hr⟩ := hB
  refine ⟨fun h0 => absurd (hr.symm.trans h0) hT, fun i hi => ?_⟩
  rw [hr] at hi
  refine wpOp_mono (fun a' w' h' => h') (wpOp_of_list (Q := Q) (Q' := NextM P md l.toArray Q S1 S2 E1 E2 i w fuel (listed.setIfInBounds i true)) (ht i hi) (fun e a w hne h => ?_) (fun ⟨a, w, h⟩ => ⟨a, w, h⟩) (h i hi))
  cases e <;> first | exact absurd rfl hne | exact h
theorem pick_one {P : Nat → Prop} {a : Nat} (h1 : P a) : ∀ t ∈ [a], P t := by
  intro t ht
  simp only [List.mem_cons, List.not_mem_nil, or_false] at ht
  subst ht
  exact h1
theorem wpMu_of_any : ∀ (fuel : Nat) (listed : Array Bool) (a : Act) (w : World), (∀ j, ops[j]? ≠ none → listed.getD j true = false → E1.contains j = true ∧ E2.contains j = true) → wpAny P md ops Q fuel listed a w → wpMu P md ops Q S1 S2 E1 E2 fuel listed a w
  | 0, _, _, _, _, h => h
  | fuel + 1, _, _, _, hE, h => ⟨h.1, fun i hi => by
    have hri := mem_ready.1 hi
    refine wpOp_mono (fun a' w' h' => ⟨?_, wpMu_of_any fuel _ a' w' (fun j hj hl => hE j hj ?_) h'⟩) (h.2 i hi)
    · obtain ⟨hl, oi, hoi, _⟩ := hri
      have := hE i (by rw [hoi]; simp) hl
      exact ⟨fun he => absurd (this.1.symm.trans he) (by decide), fun he => absurd (this.2.symm.trans he) (by decide)⟩
    · by_cases hij : i = j
      · subst hij
        exact hri.1
      · rwa [getD_set_ne true hij] at hl⟩
theorem wpMu_rest {l : List Oper} {fuel : Nat} {listed : Array Bool} {a : Act} {w : World} (T : List Nat) (hB : (restB md l T listed && ((T.length == fuel) && (List.range l.length).all fun j => listed.getD j true || (E1.contains j && E2.contains j))) = true)
    (h : wpList P l.toArray Q (opsAt l T) a w) : wpMu P md l.toArray Q S1 S2 E1 E2 fuel listed a w := by
  simp only [Bool.and_eq_true, beq_iff_eq] at hB
  obtain ⟨h1, h2, h3⟩ := hB
  subst h2
  refine wpMu_of_any _ _ _ _ (fun j hj hl => ?_) (wpAny_rest T listed a w h1 h)
  have hlt : j < l.length := by
    rcases Nat.lt_or_ge j l.length with h | h
    · exact h
    · exact absurd (by simp [h]) hj
  have := List.all_eq_true.1 h3 j (List.mem_range.2 hlt)
  rw [hl, Bool.false_or, Bool.and_eq_true] at this
  exact this
end
end Go
/- Maps that the call has made whose elements are bools: the look-up. -/
namespace Go.Proofs.Ytdgeinipdphoeaa
set_option linter.unusedVariables false
open Go.RowKit Go.ChangeMaps Go.MapKept
open Go.Maps (Keyed)

theorem plainElem_bool_inv {H : Type} {P : Program} {e : TypeId} (he : P.underlying e = some .bool) {v : Value} {z : DataW H × List MemPlace} (h : plainElem P e v = some z) : ∃ a, v = .bool a ∧ z = (.lit (.bool a), []) := by
  unfold plainElem at h
  rw [he] at h
  cases v <;> simp at h
  exact ⟨_, rfl, h.symm⟩
theorem lookup_bool {H : Type} {P : Program} {k t e : TypeId} {w : World} {b n : Nat} {D : DataW H} (h : w.ownsMap P k (plainElem P e) b n D) (K : Keyed P k) (ht : P.underlying t = some (.map k e)) (he : P.underlying e = some .bool) (hz : (zeroValue e).run P w = .ok (.bool false) w)
    {key : Value} {kl : Lit} (hkey : keyOf P k key = some kl) : ∃ c, (Instr.lookup t (.map (some b)) key false).run P w = .ok (.bool c) w ∧ D.atKey kl (.lit (.bool false)) = .lit (.bool c) := by
  obtain ⟨v, ps, hrun, hv⟩ := h.lookup K ht hz (plainElem_bool he false) hkey
  obtain ⟨c, rfl, hc⟩ := plainElem_bool_inv he hv
  simp only [Prod.mk.injEq] at hc
  exact ⟨c, hrun, hc.1⟩
/-- 'm[k]' (without 'ok') at elements that are bools, for the walk. -/
theorem wpList_lookup_own_bool {H : Type} {P : Program} (w : World) {ops : Array Oper} {rest : List Oper} {o : Oper} {a : Act} {Q : Exit → Act → World → Prop}
    (hg : o.guard = none) (m x : Operand) (t : TypeId) (hop : o.op = Op.lookup t m x false)
    (k e : TypeId) (K : Keyed P k) (ht : P.underlying t = some (.map k e)) (he : P.underlying e = some .bool) (hz : (zeroValue e).run P w = .ok (.bool false) w) (b n : Nat) (D : DataW H)
    (hm : a.eval m = .map (some b)) (hown : w.ownsMap P k (plainElem P e) b n D) (key : Value) (kl : Lit) (hx : a.eval x = key) (hkey : keyOf P k key = some kl)
    (hK : ∀ c : Bool, D.atKey kl (.lit (.bool false)) = .lit (.bool c) → wpList P ops Q rest (a.put o.dst (.bool c)) w) :
    wpList P ops Q (o :: rest) a w := by
  refine wpList_plain hg fun K' hK' => ?_
  obtain ⟨c, hrun, hat⟩ := lookup_bool hown K ht he hz hkey
  unfold Oper.wp
  simp [execOp, hop, hm, hx, hrun, Result.andThen]
  exact hK' _ _ (hK c hat)
end Go.Proofs.Ytdgeinipdphoeaa
/- copy of a whole slice that lies in memory onto a row of the call's own, whatever the elements' size. -/
namespace Go.Proofs.Ytdgeinipdphoeaa
set_option linter.unusedVariables false
set_option linter.unusedSimpArgs false
open Go.ChangeShapes Go.WideShapes Go.ChangeAt Go.RowKit

theorem run_copy_rows {P : Program} (w : World) (dT sT ty elem : TypeId) (i : TypeInfo) (size : Nat) (hu : P.underlying dT = some (.slice elem)) (hi : P.info? elem = some i) (hsz : i.size = size) {base g n cap : Nat} {xs : List Value}
    (hown : w.ownsRow base elem size (.slice (some ⟨g, 0, none⟩) n cap) n xs) (sv : Value) (cs : List Value) (hs : SlAt w sv n size cs) (h1 : ∀ u ∈ cs, u.oneCell' = true) :
    ∃ w', (Builtin.copy_ #[dT, sT] ty #[.slice (some ⟨g, 0, none⟩) n cap, sv]).run P w = .ok (goInt n) w' ∧ w'.ownsRow base elem size (.slice (some ⟨g, 0, none⟩) n cap) n cs ∧ w.grownBy w' (some g) := by
  subst hsz
  obtain ⟨ao, cap', rfl, hc1, _, hc3⟩ := SlAt.shape hs
  cases ao with
  | none =>
    obtain rfl := hc3 rfl
    obtain rfl : n = 0 := by omega
    have hnil : cs = [] := List.eq_nil_of_length_eq_zero (by simpa using hs.1)
    subst hnil
    refine ⟨w, ?_, ⟨by simp, hown.2.imp (fun h => h) ?_⟩, World.grownBy.refl _ _⟩
    · simp [Builtin.copy_, run_underlying hu, Builtin.lenOf, Builtin.firstCells, sizeOf, typeInfo, hi, storeCells]
    · rintro ⟨g', cap', cur, h1, h2, h3, h4, h5, h6, _⟩
      exact ⟨g', cap', cur, h1, h2, h3, h4, h5, h6, by simp⟩
  | some a =>
    rcases hown.2 with ⟨h', _⟩ | ⟨g', cap'', cur, h', hb, hg, hnc, hcm, hcs, htake⟩
    · simp at h'
    · simp only [Value.slice.injEq, Option.some.injEq, Addr.mk.injEq, and_true, true_and] at h'
      obtain ⟨rfl, rfl⟩ := h'
      have hl := run_loadCells_list (P := P) w a cs (SlAt.src hs)
      have hcl : cs.length = n * i.size := hs.1
      have hle : n * i.size ≤ cap * i.size := Nat.mul_le_mul_right _ hnc
      have hst := run_storeCells_at P g 0 elem cs 0 cur w hg (by simp; omega) h1
      refine ⟨w.setRow g (cs ++ cur.toList.drop cs.length).toArray, ?_, ⟨hcl, .inr ⟨g, cap, _, rfl, hb, setRow_heap w g cur _ elem _ hg, hnc, hcm, ?_, ?_⟩⟩, ⟨rfl, rfl, rfl, by simp [World.setRow], fun k _ hk => setRow_other w g k _ (fun e => hk (by simp [e]))⟩⟩
      · rw [hcl] at hl hst
        simp [Builtin.copy_, run_underlying hu, Builtin.lenOf, Builtin.firstCells, sizeOf, typeInfo, hi, hl, hst, hcl]
      · simp; omega
      · rw [← hcl]; exact List.take_left
theorem wpList_copy_rows {P : Program} (w : World) {ops : Array Oper} {rest : List Oper} {o : Oper} {a : Act} {Q : Exit → Act → World → Prop} (hgd : o.guard = none) (d s : Operand) (dT sT : TypeId)
    (ho : o.op = .call { callee := .builtin .copy, args := #[d, s], argTypes := #[dT, sT] }) (elem : TypeId) (i : TypeInfo) (size : Nat) (hu : P.underlying dT = some (.slice elem)) (hi : P.info? elem = some i) (hsz : i.size = size) {base g n cap : Nat} {xs : List Value}
    (hd : a.eval d = .slice (some ⟨g, 0, none⟩) n cap) (hown : w.ownsRow base elem size (.slice (some ⟨g, 0, none⟩) n cap) n xs) (sv : Value) (cs : List Value) (hx : a.eval s = sv) (hs : SlAt w sv n size cs) (h1 : ∀ u ∈ cs, u.oneCell' = true)
    (h : ∀ w', w'.ownsRow base elem size (.slice (some ⟨g, 0, none⟩) n cap) n cs → w.grownBy w' (some g) → wpList P ops Q rest (a.put o.dst (goInt n)) w') : wpList P ops Q (o :: rest) a w := by
  refine wpList_plain hgd fun K hK => ?_
  obtain ⟨w', hrun, h2, h3⟩ := run_copy_rows (P := P) w dT sT o.type elem i size hu hi hsz hown sv cs hs h1
  unfold Oper.wp
  simp [execOp, ho, resolve, invoke, builtin, hd, hx, hrun, Result.andThen]
  exact hK _ _ (h w' h2 h3)
/-- The last elements of a slice. -/
theorem SlAt.drop {w : World} {b off n cap size : Nat} {cs : List Value} (h : SlAt w (.slice (some ⟨b, off, none⟩) n cap) n size cs) {k : Nat} (hk : k ≤ n) : SlAt w (.slice (some ⟨b, off + k * size, none⟩) (n - k) (cap - k)) (n - k) size (cs.drop (k * size)) := by
  obtain ⟨_, h1, h2, _, h4⟩ := h.parts
  have h0 := h.1
  have hle : k * size ≤ n * size := Nat.mul_le_mul_right size hk
  refine ⟨by rw [List.length_drop, h0, Nat.sub_mul], _, _, rfl, by omega, by omega, (fun h => by cases h), fun hl => ?_⟩
  obtain ⟨b', o', e, hc⟩ := h4 (by simp at hl; omega)
  simp only [Option.some.injEq, Addr.mk.injEq] at e
  obtain ⟨rfl, rfl, _⟩ := e
  refine ⟨b, off + k * size, rfl, fun j u hj => ?_⟩
  rw [List.getElem?_drop] at hj
  have := hc _ _ hj
  rwa [Nat.add_assoc]
/-- s[:k:k] and s[k:] as the walk writes them. -/
theorem SlAt.take3 {w : World} {ao : Option Addr} {n cap size : Nat} {cs : List Value} (h : SlAt w (.slice ao n cap) n size cs) {k : Nat} (hk : k ≤ n) : SlAt w (.slice ao k k) k size (cs.take (k * size)) := by
  obtain ⟨h0, ao', cap', e, h1, h2, h3⟩ := h.take hk
  simp only [Value.slice.injEq, true_and] at e
  obtain ⟨rfl, rfl⟩ := e
  exact ⟨h0, ao, k, rfl, Nat.le_refl _, by omega, fun e => by have := h3.1 e; omega, h3.2⟩
theorem SlAt.from {w : World} {ao : Option Addr} {n cap size : Nat} {cs : List Value} (h : SlAt w (.slice ao n cap) n size cs) (ho : 0 < n → ∀ a, ao = some a → a.spot = none) {k : Nat} (hk : k ≤ n) : SlAt w (.slice (if cap = k then ao else ao.map fun a => a.add (k * size)) (n - k) (cap - k)) (n - k) size (cs.drop (k * size)) := by
  obtain ⟨_, h1, h2, h3, h4⟩ := h.parts
  have h0 := h.1
  cases ao with
  | none =>
    obtain rfl := h3 rfl
    obtain rfl : n = 0 := by omega
    obtain rfl : k = 0 := by omega
    have : cs = [] := List.eq_nil_of_length_eq_zero (by simpa using h0)
    subst this
    exact ⟨by simp, none, 0, by simp, Nat.le_refl _, by omega, fun _ => rfl, fun h => by simp at h⟩
  | some a =>
    obtain ⟨b, off, s⟩ := a
    by_cases hn0 : n = 0
    · subst hn0
      obtain rfl : k = 0 := by omega
      have : cs = [] := List.eq_nil_of_length_eq_zero (by simpa using h0)
      subst this
      refine ⟨by simp, _, _, rfl, Nat.zero_le _, by omega, fun h => ?_, fun h => by simp at h⟩
      split at h <;> simp at h
    obtain rfl : s = none := ho (by omega) _ rfl
    by_cases hc : cap = k
    · subst hc
      obtain rfl : n = cap := by omega
      rw [if_pos rfl]
      have : cs.drop (n * size) = [] := List.drop_eq_nil_of_le (by omega)
      rw [this, Nat.sub_self]
      exact ⟨by simp, _, 0, rfl, Nat.le_refl _, by omega, (fun h => by cases h), fun h => by simp at h⟩
    · rw [if_neg hc]
      have := h.drop hk
      have e : (⟨b, off, none⟩ : Addr).add (k * size) = ⟨b, off + k * size, none⟩ := by unfold Addr.add; split <;> simp_all
      rw [Option.map_some, e]
      exact this
end Go.Proofs.Ytdgeinipdphoeaa
/- How arguments that are texts, values, schemas, rows, and lists of these are opened. -/
namespace Go.Proofs.Ytdgeinipdphoeaa
set_option linter.unusedVariables false
set_option linter.unusedSimpArgs false
set_option maxRecDepth 100000
open Go.ChangeShapes Go.WideShapes Go.ChangeAt Go.RowKit Go.Joins Go.Deep

section
variable {H : Type} {enc : TypeId × Value → H} {W : World} {base : Nat}
/-- A slice of elements of some cells. -/
theorem open_sl {t e : TypeId} (n : Nat) (ht : Try.prog.underlying t = some (.slice e)) (hC : Try.prog.cellsOf e = n) (h0 : 0 < n) {v : Value} {fuel : Nat} {x : DataW H × List MemPlace} (h : DataW.trod enc Try.prog W 0 (fun _ => true) true fuel t [v] = some x) :
    ∃ (ao : Option Addr) (len cap : Nat), v = .slice ao len cap ∧ len ≤ cap ∧ cap ≤ maxLen ∧ (ao = none → cap = 0) ∧
      (0 < len → ∃ b off, ao = some ⟨b, off, none⟩ ∧ ∀ i, i < len → ∃ (cs : List Value) (k : Nat) (y : DataW H × List MemPlace), cs.length = n ∧ (∀ j u, cs[j]? = some u → W.cell? ⟨b, off + (i * n + j), none⟩ = some u) ∧ DataW.trod enc Try.prog W 0 (fun _ => true) true k e cs = some y) := by
  rcases open_slice ht h with ⟨hcs, _⟩ | ⟨a, len, cap, m, k, D, Pl, hcs, _, hl, hm, hmm, _, hi⟩
  · simp at hcs
    exact ⟨none, 0, 0, hcs, Nat.le_refl _, by simp, fun _ => rfl, fun h => absurd h (by omega)⟩
  · simp at hcs
    simp only [if_true] at hmm
    refine ⟨some a, len, cap, hcs, hl, hm, (fun h => by cases h), fun hlen => ?_⟩
    have key : ∀ i, i < len → ∃ (cs : List Value) (y : DataW H × List MemPlace), cs.length = n ∧ (∀ j u, cs[j]? = some u → W.cell? ((a.add (i * n)).add j) = some u) ∧ DataW.trod enc Try.prog W 0 (fun _ => true) true k e cs = some y := fun i hi' => by
      obtain ⟨cs, hc, ht'⟩ := hi i (by omega)
      rw [hC] at hc
      obtain ⟨_, hcl, hat⟩ := World.cells?_some hc
      exact ⟨cs, _, hcl, fun j u hj => by rw [hat j (by have := (List.getElem?_eq_some_iff.1 hj).1; omega)]; exact hj, ht'⟩
    obtain ⟨b, off, s⟩ := a
    obtain ⟨cs0, _, hl0, hc0, _⟩ := key 0 hlen
    have hs : s = none := by
      have := hc0 0 cs0[0] (List.getElem?_eq_getElem (by omega))
      have := spot_none this
      simpa [Addr.add] using this
    subst hs
    refine ⟨b, off, rfl, fun i hi' => ?_⟩
    obtain ⟨cs, y, h1, h2, h3⟩ := key i hi'
    refine ⟨cs, k, y, h1, fun j u hj => ?_, h3⟩
    have h4 := h2 j u hj
    have e1 : ((⟨b, off, none⟩ : Addr).add (i * n)).add j = ⟨b, off + (i * n + j), none⟩ := by
      have ea : ∀ o m : Nat, (⟨b, o, none⟩ : Addr).add m = ⟨b, o + m, none⟩ := fun o m => by unfold Addr.add; split <;> simp_all
      rw [ea, ea, Nat.add_assoc]
    rw [e1] at h4
    exact h4
/-- The cells of elements, read one by one, are the cells of the list. -/
theorem sl_of {α : Type} {n len : Nat} {f : α → List Value} (hf : ∀ x, (f x).length = n) (h0 : 0 < n) {b off : Nat} (R : α → Prop)
    (h : ∀ i, i < len → ∃ x, R x ∧ ∀ j u, (f x)[j]? = some u → W.cell? ⟨b, off + (i * n + j), none⟩ = some u) : ∃ l : List α, l.length = len ∧ (∀ x ∈ l, R x) ∧ ∀ j u, (l.flatMap f)[j]? = some u → W.cell? ⟨b, off + j, none⟩ = some u := by
  induction len with
  | zero => exact ⟨[], rfl, by simp, by simp⟩
  | succ m ih =>
    obtain ⟨l, h1, h2, h3⟩ := ih (fun i hi => h i (by omega))
    obtain ⟨x, hx, hc⟩ := h m (by omega)
    refine ⟨l ++ [x], by simp [h1], fun y hy => ?_, fun j u hj => ?_⟩
    · rcases List.mem_append.1 hy with h | h
      · exact h2 y h
      · simp at h; subst h; exact hx
    · have hll : (l.flatMap f).length = m * n := by rw [flat_len n f hf, h1]
      rw [List.flatMap_append] at hj
      by_cases hjl : j < m * n
      · rw [List.getElem?_append_left (by omega)] at hj
        exact h3 j u hj
      · rw [List.getElem?_append_right (by omega), hll] at hj
        have := hc (j - m * n) u (by simpa using hj)
        rw [show m * n + (j - m * n) = j by omega] at this
        exact this
theorem flat_one {α : Type} (g : α → Value) : ∀ l : List α, l.flatMap (fun x => [g x]) = l.map g
  | [] => rfl
  | x :: l => by rw [List.flatMap_cons, flat_one g l]; rfl
theorem open_strs {t : TypeId} (ht : Try.prog.underlying t = some (.slice 9)) {v : Value} {fuel : Nat} {x : DataW H × List MemPlace} (h : DataW.trod enc Try.prog W 0 (fun _ => true) true fuel t [v] = some x) :
    ∃ ss, StrsSl W v ss ∧ ∀ s ∈ ss, s.size ≤ 9223372036854775807 := by
  obtain ⟨ao, len, cap, rfl, h1, h2, h3, hA⟩ := open_sl 1 ht (by kernel_rfl) (by decide) h
  by_cases h0 : 0 < len
  · obtain ⟨b, off, rfl, hc⟩ := hA h0
    obtain ⟨ss, hl, hR, hcells⟩ := sl_of (W := W) (n := 1) (len := len) (f := fun s : ByteArray => [Value.string s]) (fun _ => rfl) (by decide) (b := b) (off := off) (fun s => s.size ≤ 9223372036854775807) (fun i hi => by
      obtain ⟨cs, k, y, hl, hcell, ht'⟩ := hc i hi
      obtain ⟨s, hs, _, hsz⟩ := DataW.trod_string Try.underlying9 ht'
      subst hs
      exact ⟨s, by unfold maxLen at hsz; omega, hcell⟩)
    subst hl
    rw [flat_one] at hcells
    exact ⟨ss, ⟨by simp, _, cap, rfl, h1, h2, (fun h => by cases h), fun _ => ⟨b, off, rfl, hcells⟩⟩, hR⟩
  · obtain rfl : len = 0 := by omega
    exact ⟨[], ⟨by simp, ao, cap, rfl, h1, h2, h3, fun h => by simp at h⟩, by simp⟩
theorem open_nums {t : TypeId} (ht : Try.prog.underlying t = some (.slice 2)) {v : Value} {fuel : Nat} {x : DataW H × List MemPlace} (h : DataW.trod enc Try.prog W 0 (fun _ => true) true fuel t [v] = some x) :
    ∃ xs, IntsSl W v xs ∧ ∀ n ∈ xs, I64 n := by
  obtain ⟨ao, len, cap, rfl, h1, h2, h3, hA⟩ := open_sl 1 ht (by kernel_rfl) (by decide) h
  by_cases h0 : 0 < len
  · obtain ⟨b, off, rfl, hc⟩ := hA h0
    obtain ⟨xs, hl, hR, hcells⟩ := sl_of (W := W) (n := 1) (len := len) (f := fun s : Int => [Value.int .i64 s]) (fun _ => rfl) (by decide) (b := b) (off := off) I64 (fun i hi => by
      obtain ⟨cs, k, y, hl, hcell, ht'⟩ := hc i hi
      obtain ⟨s, hs, _, hsz⟩ := DataW.trod_int Try.underlying2 ht'
      subst hs
      exact ⟨s, i64_of_wf hsz, hcell⟩)
    subst hl
    rw [flat_one] at hcells
    exact ⟨xs, ⟨by simp, _, cap, rfl, h1, h2, (fun h => by cases h), fun _ => ⟨b, off, rfl, hcells⟩⟩, hR⟩
  · obtain rfl : len = 0 := by omega
    exact ⟨[], ⟨by simp, ao, cap, rfl, h1, h2, h3, fun h => by simp at h⟩, by simp⟩
theorem val_of {cs : List Value} {k : Nat} {y : DataW H × List MemPlace} (h : DataW.trod enc Try.prog W 0 (fun _ => true) true k 54 cs = some y) : ∃ v : ValD, cs = v.cells ∧ v.s.size ≤ 9223372036854775807 := by
  obtain ⟨y0, y1, n, _, hl, h0, h1⟩ := trod_struct2 Try.underlying54 h
  have hC : Try.prog.cellsOf 54 = 2 := by kernel_rfl
  rw [hC] at hl
  match cs, hl with
  | [a, b], _ =>
    obtain ⟨s, e0, _, hs⟩ := DataW.trod_string Try.underlying9 h0
    obtain ⟨c, e1, _⟩ := DataW.trod_bool Try.underlying4 h1
    have c0 : Try.prog.cellsOf 9 = 1 := by kernel_rfl
    have c1 : Try.prog.cellsOf 4 = 1 := by kernel_rfl
    rw [c0] at e0
    rw [c1] at e1
    simp at e0 e1
    subst e0 e1
    exact ⟨⟨s, c⟩, rfl, by unfold maxLen at hs; omega⟩
theorem open_vals {t : TypeId} (ht : Try.prog.underlying t = some (.slice 54)) {v : Value} {fuel : Nat} {x : DataW H × List MemPlace} (h : DataW.trod enc Try.prog W 0 (fun _ => true) true fuel t [v] = some x) :
    ∃ l, ValsSl W v l ∧ ∀ v ∈ l, v.s.size ≤ 9223372036854775807 := by
  obtain ⟨ao, len, cap, rfl, h1, h2, h3, hA⟩ := open_sl 2 ht (by kernel_rfl) (by decide) h
  by_cases h0 : 0 < len
  · obtain ⟨b, off, rfl, hc⟩ := hA h0
    obtain ⟨l, hl, hR, hcells⟩ := sl_of (W := W) (n := 2) (len := len) (f := ValD.cells) ValD.cells_len (by decide) (b := b) (off := off) (fun v => v.s.size ≤ 9223372036854775807) (fun i hi => by
      obtain ⟨cs, k, y, hl, hcell, ht'⟩ := hc i hi
      obtain ⟨v, hv, hsz⟩ := val_of ht'
      subst hv
      exact ⟨v, hsz, hcell⟩)
    subst hl
    exact ⟨l, ⟨flat_len 2 _ ValD.cells_len l, _, cap, rfl, h1, h2, (fun h => by cases h), fun _ => ⟨b, off, rfl, hcells⟩⟩, hR⟩
  · obtain rfl : len = 0 := by omega
    exact ⟨[], ⟨by simp, ao, cap, rfl, h1, h2, h3, fun h => by simp at h⟩, by simp⟩
theorem open_sch {v : Value} {d : DataW H} {p : List MemPlace} (hv : Value.okWide Try.prog W .any base 24 v) (h : DataW.Trod enc Try.prog W 0 (fun _ => true) true 24 v d p) :
    ∃ vd vm ds ms g, v = .agg #[vd, vm, .int .i64 g] ∧ StrsSl W vd ds ∧ StrsSl W vm ms ∧ (∀ s ∈ ds, s.size ≤ 9223372036854775807) ∧ (∀ s ∈ ms, s.size ≤ 9223372036854775807) ∧ I64 g := by
  obtain ⟨v0, v1, v2, y0, y1, y2, m, rfl, _, _, h0, h1, h2⟩ := open_agg3 (P := Try.prog) Try.underlying24 (by kernel_rfl) (by kernel_rfl) hv h
  obtain ⟨ds, a1, a2⟩ := open_strs Try.underlying22 h0
  obtain ⟨ms, b1, b2⟩ := open_strs Try.underlying22 h1
  obtain ⟨g, e, _, hg⟩ := DataW.trod_int Try.underlying2 h2
  simp at e
  subst e
  exact ⟨v0, v1, ds, ms, g, rfl, a1, b1, a2, b2, i64_of_wf hg⟩
theorem open_row {v : Value} {d : DataW H} {p : List MemPlace} (hv : Value.okWide Try.prog W .any base 28 v) (h : DataW.Trod enc Try.prog W 0 (fun _ => true) true 28 v d p) :
    ∃ vr vn t l xs, v = .agg #[.int .i64 t, vr, vn] ∧ ValsSl W vr l ∧ IntsSl W vn xs ∧ (∀ v ∈ l, v.s.size ≤ 9223372036854775807) ∧ (∀ n ∈ xs, I64 n) ∧ I64 t := by
  obtain ⟨v0, v1, v2, y0, y1, y2, m, rfl, _, _, h0, h1, h2⟩ := open_agg3 (P := Try.prog) Try.underlying28 (by kernel_rfl) (by kernel_rfl) hv h
  obtain ⟨t, e, _, ht⟩ := DataW.trod_int Try.underlying2 h0
  obtain ⟨l, a1, a2⟩ := open_vals Try.underlying25 h1
  obtain ⟨xs, b1, b2⟩ := open_nums Try.underlying26 h2
  simp at e
  subst e
  exact ⟨v1, v2, t, l, xs, rfl, a1, b1, a2, b2, i64_of_wf ht⟩
end
end Go.Proofs.Ytdgeinipdphoeaa
/- The frame that all statements of this seat share: a law that returns true and leaves what was there as it was has its row. -/
namespace Go.Proofs.Ytdgeinipdphoeaa
set_option linter.unusedVariables false
set_option linter.unusedSimpArgs false
open Go.ChangeShapes Go.WideShapes Go.ChangeAt Go.RowKit Go.Joins

theorem ownK : ownKnob Try.prog.godebug = none := by kernel_rfl
theorem laidOutK : laidOutB Try.prog = true := by kernel_rfl

theorem trodAll_stays {H : Type} {enc : TypeId × Value → H} {P : Program} {W W' : World} (hl : laidOutB P = true) (sp : Nat → Bool) : ∀ (ts : List TypeId) (vs : List Value) (ds : List (DataW H)) (ps : List MemPlace),
    ts.all (fun t => P.readableRec t && decide (t < P.types.size)) = true → DataW.TrodAll enc P W 0 (fun _ => true) true ts vs ds ps → (∀ p ∈ ps, W.sameAt W' p) → (∀ p ∈ ps, sp p.block = true) → DataW.TrodAll enc P W' 0 sp true ts vs ds ps
  | [], [], [], _, _, h, _, _ => h
  | t :: ts, v :: vs, d :: ds, ps, hr, h, hsame, hsp => by
    obtain ⟨p, q, h1, h2, rfl⟩ := h
    simp only [List.all_cons, Bool.and_eq_true, decide_eq_true_eq] at hr
    exact ⟨p, q, WideElems.Trod_stays hl hr.1.1 hr.1.2 h1 (fun x hx => hsame x (by simp [hx])) (fun x hx => hsp x (by simp [hx])), trodAll_stays hl sp ts vs ds q hr.2 h2 (fun x hx => hsame x (by simp [hx])) (fun x hx => hsp x (by simp [hx])), rfl⟩
  | [], [], _ :: _, _, _, h, _, _ => h.elim
  | [], _ :: _, _, _, _, h, _, _ => h.elim
  | _ :: _, [], _, _, _, h, _, _ => h.elim
  | _ :: _, _ :: _, [], _, _, h, _, _ => h.elim

/-- What the row asks behind the call, of a law that has returned true and made new blocks alone. -/
theorem law_post {H : Type} {enc : TypeId × Value → H} {fn : Func} {s : ChangeSpec} {W W' : World} {args : Array Value} {ds gs : List (DataW H)} {before : List MemPlace} {apart : Bool}
    (hv : s.vars = []) (hres : fn.resultTypes = #[4]) (hread : fn.params.toList.all (fun t => Try.prog.readableRec t && decide (t < Try.prog.types.size)) = true)
    (hW : DataW.Whole enc Try.prog fn.params.toList s.vars apart W args.toList ds gs before)
    (hs1 : (s.fn H (ds ++ gs)).results = [.lit (.bool true)]) (hs2 : (s.fn H (ds ++ gs)).args = ds) (hs3 : (s.fn H (ds ++ gs)).vars = []) (hb : Below W.heap.size W W') :
    s.post enc Try.prog fn apart true false false W args (.bool true) W' := by
  have hlt : ∀ p ∈ before, p.block < W.heap.size := fun p hp => hW.lt p hp
  have hW' := hW
  obtain ⟨p, q, hA, hV, rfl, _, _⟩ := hW
  rw [hv] at hV
  have hq : q = [] := by cases gs with
    | nil => exact hV
    | cons _ _ => exact hV.elim
  subst hq
  refine ⟨ds, gs, _, [], p ++ [], [], hW', ?_, ?_, ?_, hb.frame _, fun h => by cases h⟩
  · rw [hres, hs1]
    exact trodAll_cons_mk (shut_bool Try.underlying4 true) trodAll_mk0
  · rw [hs2, List.append_nil]
    exact trodAll_stays laidOutK _ _ _ _ _ hread hA (fun x hx => hb.same (hlt x (by simp [hx]))) (fun x hx => by simpa using hlt x (by simp [hx]))
  · rw [hv, hs3]; rfl

set_option maxRecDepth 100000 in
/-- A law of any parameters: out of its walk. -/
theorem law_lift {H : Type} {enc : TypeId × Value → H} {os : Os} {f : FuncId} {fn : Func} {s : ChangeSpec} {conds : List PathCond}
    (started : os.Started) (noInit : Try.prog.inits.idxOf? f = none) (hfn : Try.prog.funcs[f]? = some fn)
    (witness : ∃ (w : World) (tape : Tape) (i : Input), w.os = os ∧ (w.forCall tape i).Shaped Try.checked.prog ∧ i.vars = [] ∧ Input.okWide Try.checked.prog (w.forCall tape i) .any w.heap.size f i ∧
      s.pre6 enc Try.checked.prog fn conds false (w.forCall tape i).memory i.args ∧ ({} : Assume).holds Try.checked.prog (lone (Frame.enter Try.checked.prog f i.args .normal) [] (w.forCall tape i)))
    (hv : s.vars = []) (hres : fn.resultTypes = #[4]) (hread : fn.params.toList.all (fun t => Try.prog.readableRec t && decide (t < Try.prog.types.size)) = true)
    (hspec : ∀ ds : List (DataW H), ds.length = fn.params.toList.length → (s.fn H (ds ++ [])).results = [.lit (.bool true)] ∧ (s.fn H (ds ++ [])).args = ds ∧ (s.fn H (ds ++ [])).vars = [])
    (walk : ∀ (W : World) (base : Nat) (args : Array Value) (ds : List (DataW H)) (p : List MemPlace), (∀ (j : Nat) t v, fn.params[j]? = some t → args[j]? = some v → Value.okWide Try.prog W .any base t v) →
      DataW.TrodAll enc Try.prog W 0 (fun _ => true) true fn.params.toList args.toList ds p → (DataW.weightsEach Try.prog fn.params.toList ds).all (· ≤ reachBytes) = true →
      Calls Try.prog f args W fun e W' => e = .returned (.bool true) ∧ Below W.heap.size W W') :
    ReturnsInHanded {} Try.checked os f .any (s.pre6 enc Try.prog fn conds false) (s.post enc Try.prog fn false true false false) := by
  refine returnsInHanded_of_change_sized (C := Try.checked) ownK started noInit hfn witness ?_
  intro W base args ds gs before hval hW _ hsz _
  have hW' := hW
  obtain ⟨p, q, hA, hV, rfl, _, _⟩ := hW
  rw [hv] at hV
  have hg : gs = [] := by cases gs with
    | nil => rfl
    | cons _ _ => exact hV.elim
  subst hg
  have hlen : ds.length = fn.params.toList.length := by
    have : ∀ (ts : List TypeId) (vs : List Value) (ds : List (DataW H)) (ps : List MemPlace), DataW.TrodAll enc Try.prog W 0 (fun _ => true) true ts vs ds ps → ds.length = ts.length := by
      intro ts
      induction ts with
      | nil => intro vs ds ps h; cases vs <;> cases ds <;> first | rfl | exact h.elim
      | cons t ts ih => intro vs ds ps h; cases vs <;> cases ds <;> first | exact h.elim | (obtain ⟨_, _, _, h2, _⟩ := h; simp [ih _ _ _ h2])
    exact this _ _ _ _ hA
  obtain ⟨hs1, hs2, hs3⟩ := hspec ds hlen
  have hsz' : (DataW.weightsEach Try.prog fn.params.toList ds).all (· ≤ reachBytes) = true := by
    have e : fn.params.toList ++ s.plain.varTypes Try.prog = fn.params.toList := by
      have : s.plain.varTypes Try.prog = [] := by simp [DataSpec.varTypes, ChangeSpec.plain, hv]
      rw [this, List.append_nil]
    have h2 := hsz
    rw [List.append_nil] at h2
    rw [← e]; exact h2
  refine (walk W base args ds p hval hA hsz').mono fun e W' ⟨he, hb⟩ => ?_
  exact ⟨_, he, law_post hv hres hread hW' hs1 hs2 hs3 hb⟩
end Go.Proofs.Ytdgeinipdphoeaa
