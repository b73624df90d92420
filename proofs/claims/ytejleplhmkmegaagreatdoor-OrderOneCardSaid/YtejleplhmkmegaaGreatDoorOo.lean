/- Texts joined: OrT, OrV. -/
import Derived.Test.YtejleplhmkmegaaGreatDoorOm
import Derived.Test.YtejleplhmkmegaaGreatDoorOn
import Derived.Test.YtejleplhmkmegaaGreatDoorOl
/- Order: 'shown' is true. -/
namespace Go.Proofs.YtejleplhmkmegaaGreatDoor
set_option linter.unusedVariables false
set_option linter.unusedSimpArgs false
set_option maxRecDepth 100000
open Go.ChangeShapes Go.WideShapes Go.ChangeAt Go.RowKit Go.Fl
attribute [local go_sem] ord_lt ord_eq ord_gt ord_ne run_store_float run_equalIn_float

theorem holds_shown (W : World) : Calls Tryz.prog 19 #[.agg #[.int .i64 0, .int .i64 5, .int .i64 2], .agg #[.bool true, .int .i64 0, .float .f64 4612811918334230528]] W fun e w' => e = .returned (.bool true) ∧ Below W.heap.size W w' := by
  have h := holds_any 0 5 2 ⟨0, true, 4612811918334230528⟩ (by decide) (by decide) ⟨by decide, by decide⟩ W
  rw [show holdsB 5 2 ⟨0, true, 4612811918334230528⟩ = true by decide +kernel] at h
  exact h
theorem compare_shown (W : World) : Calls Tryz.prog 21 #[.agg #[.bool false, .int .i64 5, .float .f64 0], .agg #[.bool true, .int .i64 0, .float .f64 4612811918334230528]] W fun e w' => e = .returned (.int .i64 1) ∧ Below W.heap.size W w' := by
  have h := compare_num ⟨5, false, 0⟩ ⟨0, true, 4612811918334230528⟩ ⟨by decide, by decide⟩ ⟨by decide, by decide⟩ W
  rw [show cmpN ⟨5, false, 0⟩ ⟨0, true, 4612811918334230528⟩ = 1 by decide +kernel] at h
  exact h
set_option maxHeartbeats 1000000 in
theorem shown18_any (w : World) (hT : Tabs w) : Calls Tryz.prog 8 #[] w fun e w' => e = .returned (.bool true) ∧ Below w.heap.size w w' := by
  have HS := hid holds_shown; have CS := hid compare_shown; have HT := hid hT
  clear hT
  go_enter Tryz.func8, Tryz.ntmps8
  go_upto_region 2 with fail
  obtain ⟨X, hX⟩ : ∃ X, (((w.alloc (.cells #[.string { data := #[120] }, .bool false, .string { data := #[] }, .bool true] 65)).alloc (.cells #[.bool false, .int .i64 5, .float .f64 0, .bool true, .int .i64 0, .float .f64 4612811918334230528] 63)).alloc (.cells #[.int .i64 2, .int .i64 60, .slice (some ⟨w.heap.size, 0, none⟩) 2 2, .slice (some ⟨w.heap.size + 1, 0, none⟩) 2 2] 37)) = X := ⟨_, rfl⟩
  have hB : Below w.heap.size w X := by rw [← hX]; (repeat' (first | (with_reducible exact Below.refl _ _) | (with_reducible assumption) | (with_reducible refine Below.new ?_ _) | (with_reducible refine Below.alloc ?_ ?_ _) | (with_reducible refine Below.drew ?_) | (with_reducible refine Below.drewN ?_ _) | (with_reducible refine Below.setCell ?_ ?_ _) | (refine Below.step ?_ (by assumption)) | go_size))
  have hz : X.heap.size = w.heap.size + 1 + 1 + 1 := by rw [← hX]; simp only [World.size_alloc]
  have a0 : X.cell? ⟨w.heap.size, 0, none⟩ = some (.string { data := #[120] }) := by subst hX; go_simp
  have a1 : X.cell? ⟨w.heap.size, 1, none⟩ = some (.bool false) := by subst hX; go_simp
  have a2 : X.cell? ⟨w.heap.size, 2, none⟩ = some (.string { data := #[] }) := by subst hX; go_simp
  have a3 : X.cell? ⟨w.heap.size, 3, none⟩ = some (.bool true) := by subst hX; go_simp
  have b0 : X.cell? ⟨w.heap.size + 1, 0, none⟩ = some (.bool false) := by subst hX; go_simp
  have b1 : X.cell? ⟨w.heap.size + 1, 1, none⟩ = some (.int .i64 5) := by subst hX; go_simp
  have b2 : X.cell? ⟨w.heap.size + 1, 2, none⟩ = some (.float .f64 0) := by subst hX; go_simp
  have b3 : X.cell? ⟨w.heap.size + 1, 3, none⟩ = some (.bool true) := by subst hX; go_simp
  have b4 : X.cell? ⟨w.heap.size + 1, 4, none⟩ = some (.int .i64 0) := by subst hX; go_simp
  have b5 : X.cell? ⟨w.heap.size + 1, 5, none⟩ = some (.float .f64 4612811918334230528) := by subst hX; go_simp
  have l0 : X.cell? ⟨w.heap.size + 1 + 1, 0, none⟩ = some (.int .i64 2) := by subst hX; go_simp
  have l1 : X.cell? ⟨w.heap.size + 1 + 1, 1, none⟩ = some (.int .i64 60) := by subst hX; go_simp
  have l2 : X.cell? ⟨w.heap.size + 1 + 1, 2, none⟩ = some (.slice (some ⟨w.heap.size, 0, none⟩) 2 2) := by subst hX; go_simp
  have l3 : X.cell? ⟨w.heap.size + 1 + 1, 3, none⟩ = some (.slice (some ⟨w.heap.size + 1, 0, none⟩) 2 2) := by subst hX; go_simp
  have TX := hid (fun W (h : Below X.heap.size X W) => text_shown w.heap.size (w.heap.size + 1) W (HT.out.below (hB.step h) (Nat.le_refl _)) (cell_step a0 h) (cell_step a1 h) (cell_step a2 h) (cell_step a3 h) (cell_step b0 h) (cell_step b1 h) (cell_step b2 h) (cell_step b3 h) (cell_step b4 h) (cell_step b5 h))
  have y0 := World.plus_cell b0; have y1 := World.plus_cell b1; have y2 := World.plus_cell b2; have y3 := World.plus_cell b3; have y4 := World.plus_cell b4; have y5 := World.plus_cell b5
  have z0 := World.plus_cell l0; have z1 := World.plus_cell l1; have z2 := World.plus_cell l2; have z3 := World.plus_cell l3
  rw [hX]
  clear a0 a1 a2 a3 b0 b1 b2 b3 b4 b5 l0 l1 l2 l3 hX
  refine wp_region_plus (by kernel_rfl) (by kernel_rfl) ?_
  repeat (first | go_big_quiet_skip | (go_big_quiet_want; go_big_quiet_op; first | go_big_quiet_on | go_big_quiet_call ((first | (go_at_call 20; exact Calls.plus_of (TX.out _ (World.plus_below _ _))) | (go_at_call 19; exact Calls.plus_of (HS.out _)) | (go_at_call 21; exact Calls.plus_of (CS.out _))))))
  refine wpQuiet_nil ?_
  rintro _ ⟨xq, rfl⟩
  have kB := World.plus_below X xq
  go_wp2
  go_ret
  exact ⟨rfl, hB.trans (kB.mono hB.size)⟩
end Go.Proofs.YtejleplhmkmegaaGreatDoor
/- Order: a query whose lists lie in blocks of a kind. -/
namespace Go.Proofs.YtejleplhmkmegaaGreatDoor
set_option linter.unusedVariables false
set_option linter.unusedSimpArgs false
set_option maxRecDepth 100000
open Go.ChangeShapes Go.WideShapes Go.ChangeAt Go.RowKit Go.Joins Go.Deep Go.Fl
theorem SlS.take {S : Nat → Prop} {w : World} {ao : Option Addr} {n cap size : Nat} {cs : List Value} (h : SlS S w (.slice ao n cap) n size cs) {k : Nat} (hk : k ≤ n) : SlS S w (.slice ao k cap) k size (cs.take (k * size)) := by
  obtain ⟨h0, ao', cap', e, h1, h2, h3, h⟩ := h
  simp only [Value.slice.injEq, true_and] at e
  obtain ⟨rfl, rfl⟩ := e
  have hle : k * size ≤ n * size := Nat.mul_le_mul_right size hk
  refine ⟨by simp; omega, ao, cap, rfl, by omega, h2, h3, fun hl => ?_⟩
  obtain ⟨b, off, rfl, hS, hc⟩ := h (by simp at hl; omega)
  refine ⟨b, off, rfl, hS, fun j u hj => hc j u ?_⟩
  have hjl : j < k * size := by have := (List.getElem?_eq_some_iff.1 hj).1; simp at this; omega
  rw [List.getElem?_take_of_lt hjl] at hj
  exact hj
theorem SlS.take_flat {α : Type} (c : α → List Value) (n : Nat) (hc : ∀ x, (c x).length = n) {S : Nat → Prop} {w : World} {an : Option Addr} {cn : Nat} {xs : List α} (h : SlS S w (.slice an xs.length cn) xs.length n (xs.flatMap c)) (k : Nat) : SlS S w (.slice an (min xs.length k) cn) (xs.take k).length n ((xs.take k).flatMap c) := by
  have h2 := SlS.take h (k := min xs.length k) (Nat.min_le_left _ _)
  have e : (xs.take k).length = min xs.length k := by rw [List.length_take, Nat.min_comm]
  have e2 : xs.take (min xs.length k) = xs.take k := by
    by_cases hk : k ≤ xs.length
    · rw [Nat.min_eq_right hk]
    · rw [Nat.min_eq_left (by omega), List.take_length, List.take_of_length_le (by omega)]
  rw [flat_take n c hc, e2] at h2
  rw [e]
  exact h2
theorem SlS.lt {S : Nat → Prop} {w : World} {v : Value} {n size : Nat} {cs : List Value} (h : SlS S w v n size cs) : SlS (fun b => S b ∧ b < w.heap.size) w v n size cs := by
  obtain ⟨h0, ao, cap, rfl, h1, h2, h3, h⟩ := h
  refine ⟨h0, ao, cap, rfl, h1, h2, h3, fun hl => ?_⟩
  obtain ⟨b, off, rfl, hS, hc⟩ := h hl
  exact ⟨b, off, rfl, ⟨hS, World.block_lt_of_cell? _ _ (hc 0 _ (List.getElem?_eq_getElem hl))⟩, hc⟩
theorem SlAt.all {w : World} {v : Value} {n size : Nat} {cs : List Value} (h : SlAt w v n size cs) : SlS (fun b => b < w.heap.size) w v n size cs := by
  have := (SlS.all h).lt
  exact this.keep (fun _ h => h.2) (fun _ _ _ => rfl)
theorem FilS.lt {S : Nat → Prop} {w : World} : ∀ {d : Nat} {cs : List Value} {f : FilD}, FilS S w d cs f → FilS (fun b => S b ∧ b < w.heap.size) w d cs f
  | 0, cs, f, h => by simp [FilS] at h
  | d + 1, cs, .mk k n ws fr till l, h => by
    unfold FilS at h ⊢
    obtain ⟨vw, vl, rows, h1, h2, h3, h4, h5, h6, h7, h8⟩ := h
    exact ⟨vw, vl, rows, h1, h2, h3.lt, h4, h5, h6, h7.lt, fun i hi r hr => (h8 i hi r hr).lt⟩
/-- A query as it lies in memory, in blocks of a kind. -/
structure QryN (S : Nat → Prop) (w : World) (q : QryV) (d : QryD) : Prop where
  aggs : SlS S w (.slice q.aa q.an q.ac) d.aggs.length 2 (d.aggs.flatMap AggD.cells)
  by_ : SlS S w (.slice q.ba q.bn q.bc) d.by_.length 1 (strsV d.by_)
  mode : q.mode = d.mode
  sets : ∃ vs : List Value, vs.length = d.sets.length ∧ SlS S w (.slice q.sa q.sn q.sc) d.sets.length 1 vs ∧ ∀ i (hi : i < d.sets.length) x, vs[i]? = some x → SlS S w x d.sets[i].length 1 (strsV d.sets[i])
  every : q.every = d.every
  wher : ∃ D, FilS S w D [.int .i64 q.kind, .string q.name, .slice q.wa q.wn q.wc, .int .i64 q.fr, .int .i64 q.till, .slice q.la q.ln q.lc] d.wher
  having : SlS S w (.slice q.ha q.hn q.hc) d.having.length 3 (d.having.flatMap CondD.cells)
  order : SlS S w (.slice q.oa q.on q.oc) d.order.length 3 (d.order.flatMap KeyD.cells)
  limit : q.limit = d.limit
theorem QryN.keep {S T : Nat → Prop} {w w' : World} {q : QryV} {d : QryD} (h : QryN S w q d) (hST : ∀ b, S b → T b) (hk : ∀ b, S b → b < w.heap.size → w'.heap[b]? = w.heap[b]?) : QryN T w' q d := by
  obtain ⟨vs, v1, v2, v3⟩ := h.sets
  obtain ⟨D, hD⟩ := h.wher
  exact ⟨h.aggs.keep hST hk, h.by_.keep hST hk, h.mode, ⟨vs, v1, v2.keep hST hk, fun i hi x hx => (v3 i hi x hx).keep hST hk⟩, h.every, ⟨D, hD.keep hST hk⟩, h.having.keep hST hk, h.order.keep hST hk, h.limit⟩
theorem QryN.below {S : Nat → Prop} {w w' : World} {q : QryV} {d : QryD} (h : QryN S w q d) (hb : Below w.heap.size w w') : QryN S w' q d := h.keep (fun _ h => h) (fun b _ hl => hb.block b hl)
theorem QryN.is {S : Nat → Prop} {w : World} {q : QryV} {d : QryD} (h : QryN S w q d) : QryIs w q d := by
  obtain ⟨vs, v1, v2, v3⟩ := h.sets
  obtain ⟨D, hD⟩ := h.wher
  exact ⟨h.aggs.sl, h.by_.sl, h.mode, ⟨vs, v1, v2.sl, fun i hi x hx => (v3 i hi x hx).sl⟩, h.every, ⟨D, hD.keep (fun _ _ => trivial) (fun _ _ _ => rfl)⟩, h.having.sl, h.order.sl, h.limit⟩
theorem QryIs.all {w : World} {q : QryV} {d : QryD} (h : QryIs w q d) : QryN (fun b => b < w.heap.size) w q d := by
  obtain ⟨vs, v1, v2, v3⟩ := h.sets
  obtain ⟨D, hD⟩ := h.wher
  exact ⟨SlAt.all h.aggs, SlAt.all h.by_, h.mode, ⟨vs, v1, SlAt.all v2, fun i hi x hx => SlAt.all (v3 i hi x hx)⟩, h.every, ⟨D, hD.lt.keep (fun _ h => h.2) (fun _ _ _ => rfl)⟩, SlAt.all h.having, SlAt.all h.order, h.limit⟩
theorem QryN.lt {S : Nat → Prop} {w : World} {q : QryV} {d : QryD} (h : QryN S w q d) : QryN (fun b => S b ∧ b < w.heap.size) w q d := by
  obtain ⟨vs, v1, v2, v3⟩ := h.sets
  obtain ⟨D, hD⟩ := h.wher
  exact ⟨h.aggs.lt, h.by_.lt, h.mode, ⟨vs, v1, v2.lt, fun i hi x hx => (v3 i hi x hx).lt⟩, h.every, ⟨D, hD.lt⟩, h.having.lt, h.order.lt, h.limit⟩
end Go.Proofs.YtejleplhmkmegaaGreatDoor
