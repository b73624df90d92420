/- Texts joined: RonA, RonB, RonC, RonD, RonE, RonF, RonG. -/
import Derived.Test.YtdgeinipdphoeaaGh
import Derived.Test.YtdgeinipdphoeaaGa
import Derived.Test.YtdgeinipdphoeaaGg
import Derived.Test.YtdgeinipdphoeaaGd
import Derived.Test.YtdgeinipdphoeaaGb
import Derived.Test.YtdgeinipdphoeaaGf
import Derived.Deep.DeepCutAuto
/- Rollup: lists of cells that a call made, whose lists lie in old memory or in rows of the call's own. -/
namespace Go.Proofs.Ytdgeinipdphoeaa
set_option linter.unusedVariables false
set_option linter.unusedSimpArgs false
set_option maxRecDepth 100000
open Go.ChangeShapes Go.WideShapes Go.ChangeAt Go.RowKit

theorem list_ofC {α : Type} {len : Nat} {R : Nat → α → Prop} (h : ∀ i, i < len → ∃ x, R i x) : ∃ l : List α, l.length = len ∧ ∀ i (hi : i < l.length), R i l[i] := by
  refine ⟨List.ofFn fun i : Fin len => Classical.choose (h i.1 i.2), by simp, fun i hi => ?_⟩
  have hi' : i < len := by simpa using hi
  rw [List.getElem_ofFn]
  exact Classical.choose_spec (h i hi')
def HeldW (w0 w : World) (v : Value) (l : List Int) : Prop := WidesSl w0 v l ∨ w.ownsRow w0.heap.size 58 2 v l.length (l.flatMap wcells)
theorem HeldW.is {w0 w : World} {v : Value} {l : List Int} (h : HeldW w0 w v l) (hb : Below w0.heap.size w0 w) : WidesSl w v l := h.elim (fun h => h.below hb) WidesSl.own
theorem HeldW.step {w0 w w' : World} {v : Value} {l : List Int} (h : HeldW w0 w v l) (hb : Below w.heap.size w w') : HeldW w0 w' v l := h.imp id fun h => row_below h hb
structure HeldC (w0 w : World) (u : CellV) (c : CellD) : Prop where
  l : HeldV w0 w u.vl c.l
  s : HeldW w0 w u.vs c.sums
  m : HeldI w0 w u.vm c.mins
  x : HeldI w0 w u.vx c.maxs
theorem HeldC.is {w0 w : World} {u : CellV} {c : CellD} (h : HeldC w0 w u c) (hb : Below w0.heap.size w0 w) : CellIs w (u.row c) c := ⟨_, _, _, _, rfl, h.l.is hb, h.s.is hb, h.m.is hb, h.x.is hb⟩
theorem HeldC.step {w0 w w' : World} {u : CellV} {c : CellD} (h : HeldC w0 w u c) (hb : Below w.heap.size w w') : HeldC w0 w' u c := ⟨h.l.step hb, h.s.step hb, h.m.step hb, h.x.step hb⟩
theorem HeldC.of {w : World} {cs : List Value} {c : CellD} (h : CellIs w cs c) : ∃ u : CellV, cs = u.row c ∧ HeldC w w u c := by
  obtain ⟨vl, vs, vm, vx, rfl, h1, h2, h3, h4⟩ := h
  exact ⟨⟨vl, vs, vm, vx⟩, rfl, .inl h1, .inl h2, .inl h3, .inl h4⟩
theorem HeldC.shapes {w0 w : World} {u : CellV} {c : CellD} (h : HeldC w0 w u c) (hb : Below w0.heap.size w0 w) : (∃ a k, u.vl = .slice a c.l.length k) ∧ (∃ a k, u.vs = .slice a c.sums.length k) ∧ (∃ a k, u.vm = .slice a c.mins.length k) ∧ ∃ a k, u.vx = .slice a c.maxs.length k := by
  obtain ⟨a1, k1, e1, _⟩ := SlAt.shape (h.l.is hb)
  obtain ⟨a2, k2, e2, _⟩ := SlAt.shape (h.s.is hb)
  obtain ⟨a3, k3, e3, _⟩ := SlAt.shape (h.m.is hb)
  obtain ⟨a4, k4, e4, _⟩ := SlAt.shape (h.x.is hb)
  exact ⟨⟨_, _, e1⟩, ⟨_, _, e2⟩, ⟨_, _, e3⟩, ⟨_, _, e4⟩⟩
theorem HeldC.one {w0 w : World} {p : CellP} (h : HeldC w0 w p.1 p.2) (hb : Below w0.heap.size w0 w) : ∀ u ∈ rowP p, u.oneCell' = true := by
  obtain ⟨⟨_, _, e1⟩, ⟨_, _, e2⟩, ⟨_, _, e3⟩, ⟨_, _, e4⟩⟩ := h.shapes hb
  intro u hu
  simp only [rowP, CellV.row, e1, e2, e3, e4, List.mem_cons, List.not_mem_nil, or_false] at hu
  rcases hu with rfl | rfl | rfl | rfl | rfl | rfl <;> rfl
/-- A list of cells, read as its cells' values. -/
theorem CellsSl.pairs {w : World} {v : Value} {l : List CellD} (h : CellsSl w v l) : ∃ ps : List CellP, cellsP ps = l ∧ SlAt w v ps.length 6 (ps.flatMap rowP) ∧ ∀ p ∈ ps, HeldC w w p.1 p.2 := by
  obtain ⟨ao, cap, rfl, h1, h2, h3, hcc⟩ := h
  by_cases h0 : 0 < l.length
  · obtain ⟨b, off, rfl, hc⟩ := hcc h0
    obtain ⟨ps, hl, hR⟩ := list_ofC (len := l.length) (R := fun i (p : CellP) => (∃ hi : i < l.length, p.2 = l[i]) ∧ HeldC w w p.1 p.2 ∧ ∀ j u, (rowP p)[j]? = some u → w.cell? ⟨b, off + i * 6 + j, none⟩ = some u) (fun i hi => by
      obtain ⟨cs, _, hr, hcell⟩ := hc i hi
      obtain ⟨u, rfl, hu⟩ := HeldC.of hr
      exact ⟨(u, l[i]), ⟨hi, rfl⟩, hu, hcell⟩)
    refine ⟨ps, ?_, ⟨?_, _, cap, by rw [hl], by omega, h2, (fun h => by cases h), fun _ => ⟨b, off, rfl, fun j u hj => ?_⟩⟩, fun p hp => ?_⟩
    · unfold cellsP
      refine List.ext_getElem (by simpa using hl) fun i hi hi' => ?_
      have hi2 : i < ps.length := by simpa using hi
      obtain ⟨⟨_, e⟩, _⟩ := hR i hi2
      simpa using e
    · exact flat_len 6 rowP rowP_len ps
    · have hjl : j < (ps.flatMap rowP).length := (List.getElem?_eq_some_iff.1 hj).1
      rw [flat_len 6 rowP rowP_len] at hjl
      have hi2 : j / 6 < ps.length := by omega
      have e : j = j / 6 * 6 + j % 6 := by omega
      have hcell := (hR (j / 6) hi2).2.2 (j % 6) u
      rw [e, flat_at 6 rowP rowP_len ps (j / 6) (j % 6) (by omega) hi2] at hj
      have := hcell hj
      rw [show off + j / 6 * 6 + j % 6 = off + j by omega] at this
      exact this
    · obtain ⟨i, hi, rfl⟩ := List.mem_iff_getElem.1 hp
      exact (hR i hi).2.1
  · obtain rfl : l = [] := List.eq_nil_of_length_eq_zero (by omega)
    exact ⟨[], rfl, ⟨by simp, ao, cap, rfl, Nat.zero_le _, h2, h3, fun h => by simp at h⟩, fun _ h => by simp at h⟩
/-- A list of cells that the call made. -/
structure OwnKs (w0 w : World) (v : Value) (ps : List CellP) : Prop where
  row : w.ownsRow w0.heap.size 46 6 v ps.length (ps.flatMap rowP)
  each : ∀ p ∈ ps, HeldC w0 w p.1 p.2
  below : Below w0.heap.size w0 w
theorem OwnKs.nil {w0 w : World} (h : Below w0.heap.size w0 w) : OwnKs w0 w (.slice none 0 0) [] := ⟨World.ownsRow_nil _ _ _ _, fun _ h => (by simp at h), h⟩
theorem OwnKs.is {w0 w : World} {v : Value} {ps : List CellP} (h : OwnKs w0 w v ps) : CellsSl w v (cellsP ps) := by
  have hr := h.row
  unfold cellsP
  rcases h.row.2 with ⟨rfl, h0⟩ | ⟨g, cap, cur, rfl, _, _, h3, h4, _, _⟩
  · have : ps = [] := List.eq_nil_of_length_eq_zero h0
    subst this
    exact ElemsSl.nil w
  · refine ⟨some ⟨g, 0, none⟩, cap, by simp, by simpa using h3, h4, (fun h => by cases h), fun hl => ⟨g, 0, rfl, fun i hi => ?_⟩⟩
    have hi' : i < ps.length := by simpa using hi
    refine ⟨rowP ps[i], rfl, ?_, fun j u hj => ?_⟩
    · have := (h.each ps[i] (List.getElem_mem hi')).is h.below
      simpa [rowP] using this
    · have hj6 : j < 6 := (List.getElem?_eq_some_iff.1 hj).1
      rw [show 0 + i * 6 + j = i * 6 + j by omega, hr.cellAt _ (by omega), flat_at 6 rowP rowP_len ps i j hj6 hi', hj]
theorem OwnKs.step {w0 w w' : World} {v : Value} {ps : List CellP} (h : OwnKs w0 w v ps) (hb : Below w.heap.size w w') : OwnKs w0 w' v ps :=
  ⟨row_below h.row hb, fun p hp => (h.each p hp).step hb, h.below.step hb⟩
/-- More of them, appended. -/
theorem OwnKs.push {w0 w w' : World} {v v' : Value} {ps qs : List CellP} {n' : Nat} (h : OwnKs w0 w v ps) (hq : ∀ p ∈ qs, HeldC w0 w p.1 p.2)
    (hg : w.grownBy w' v.ownBlock) (hown : w'.ownsRow w0.heap.size 46 6 v' n' (ps.flatMap rowP ++ qs.flatMap rowP)) (hn : n' = ps.length + qs.length) : OwnKs w0 w' v' (ps ++ qs) := by
  subst hn
  have key : ∀ {e : TypeId} {size : Nat} {x : Value} {n : Nat} {xs : List Value}, e ≠ 46 → w.ownsRow w0.heap.size e size x n xs → w'.ownsRow w0.heap.size e size x n xs := fun he hx => by
    refine hx.kept hg ?_
    cases hxo : Value.ownBlock _ with
    | none => exact .inl rfl
    | some g => exact .inr fun e => row_ne hx h.row he hxo e.symm
  have kc : ∀ {u : CellV} {c : CellD}, HeldC w0 w u c → HeldC w0 w' u c := fun hx => ⟨hx.l.imp id (key (by decide)), hx.s.imp id (key (by decide)), hx.m.imp id (key (by decide)), hx.x.imp id (key (by decide))⟩
  refine ⟨by simpa using hown, fun p hp => ?_, own_below h.row hg h.below (Nat.le_refl _)⟩
  rcases List.mem_append.1 hp with hp | hp
  · exact kc (h.each p hp)
  · exact kc (hq p hp)
end Go.Proofs.Ytdgeinipdphoeaa
/- Rollup: a row's cell, by the reference. -/
namespace Go.Proofs.Ytdgeinipdphoeaa
set_option linter.unusedVariables false
set_option linter.unusedSimpArgs false
set_option maxRecDepth 100000
open Go.ChangeShapes Go.WideShapes Go.ChangeAt Go.RowKit

def RefOfPost (s : SchD) (r : RowD) (vl vn : Value) (w : World) (e : Ending) (w' : World) : Prop :=
  Below w.heap.size w w' ∧ ((ofE s r = 0 ∧ ∃ vs, e = .returned (.tuple #[.agg #[.int .i64 (cutV r.t s.g), vl, .int .i64 1, vs, vn, vn], .int .i64 0]) ∧ w'.ownsRow w.heap.size 58 2 vs r.xs.length (r.xs.flatMap wcells)) ∨ (¬ ofE s r = 0 ∧ e = .returned (.tuple #[zeroC, .int .i64 (ofE s r)])))
set_option maxHeartbeats 2000000 in
theorem refOf_bad (s : SchD) (r : RowD) (vd vm vl vn : Value) (w : World) (hd : StrsSl w vd s.ds) (hm : StrsSl w vm s.ms) (td : Texts s.ds) (tm : Texts s.ms) (hl : ValsSl w vl r.l) (tl : Vals r.l) (hn : IntsSl w vn r.xs) (hbad : ¬ ofE s r = 0) :
    Calls Try.prog 30 #[.agg #[vd, vm, .int .i64 s.g], .agg #[.int .i64 r.t, vl, vn]] w (RefOfPost s r vl vn w) := by
  have HR := hid (fun W (h : Below w.heap.size w W) => refRight_any vd vm s.ds s.ms s.g W (hd.below h) (hm.below h) td tm)
  have HF := hid (fun W (h : Below w.heap.size w W) => refFits_any vd vm vl vn s.ds s.ms s.g r.t r.l r.xs.length _ W (hd.below h) (hm.below h) td tm (hl.below h) tl (SlAt.below hn h))
  obtain ⟨ad, cd, rfl, _, _, _⟩ := SlAt.shape hd
  obtain ⟨am, cm, rfl, _, _, _⟩ := SlAt.shape hm
  obtain ⟨al, cl, rfl, _, _, _⟩ := SlAt.shape hl
  obtain ⟨an, cn, rfl, _, _, _⟩ := SlAt.shape hn
  clear hd hm hl hn td tm tl
  by_cases h1 : okSch s = true
  · by_cases h2 : fitsR s r = true
    · exact absurd (show ofE s r = 0 by unfold ofE; rw [if_pos h1, if_pos h2]) hbad
    · have HE : Hid (ofE s r = 101) := by unfold Hid ofE; rw [if_pos h1, if_neg h2]
      have h2' : fitsR s r = false := by simpa using h2
      unfold okSch at h1
      unfold fitsR at h2'
      rw [h1] at HR
      rw [h2'] at HF
      clear h1 h2 h2' hbad
      go_enter Try.func30, Try.ntmps30
      go_wp2_with (first
        | (go_at_call 22; ((with_reducible refine (HR.out _ (by (repeat' (first | (with_reducible exact Below.refl _ _) | (with_reducible assumption) | (with_reducible refine Below.new ?_ _) | (with_reducible refine Below.alloc ?_ ?_ _) | (with_reducible refine Below.drew ?_) | (with_reducible refine Below.drewN ?_ _) | (with_reducible refine Below.setCell ?_ ?_ _) | (refine Below.step ?_ (by assumption)) | go_size)))).mono ?_); rintro e w1 ⟨rfl, hb1⟩; obtain ⟨hc1, hf1, hk1, hz1⟩ := bcell3 hb1; (try simp only [World.size_alloc, World.size_drew] at hz1); have : w.heap.size < w1.heap.size := (by omega); have : w.heap.size + 1 < w1.heap.size := (by omega); have : w.heap.size + 1 + 1 < w1.heap.size := (by omega)))
        | (go_at_call 24; ((with_reducible refine (HF.out _ (by (repeat' (first | (with_reducible exact Below.refl _ _) | (with_reducible assumption) | (with_reducible refine Below.new ?_ _) | (with_reducible refine Below.alloc ?_ ?_ _) | (with_reducible refine Below.drew ?_) | (with_reducible refine Below.drewN ?_ _) | (with_reducible refine Below.setCell ?_ ?_ _) | (refine Below.step ?_ (by assumption)) | go_size)))).mono ?_); rintro e w2 ⟨rfl, hb2⟩; obtain ⟨hc2, hf2, hk2, hz2⟩ := bcell3 hb2; (try simp only [World.size_alloc, World.size_drew] at hz2); have : w.heap.size < w2.heap.size := (by omega); have : w.heap.size + 1 < w2.heap.size := (by omega); have : w.heap.size + 1 + 1 < w2.heap.size := (by omega))))
      ((show bodyPost _ _ _ _ _ _); refine bodyPost_ret (by simp only [results, Try.results30]; go_simp; try rfl) rfl ?_)
      exact ⟨by (repeat' (first | (with_reducible exact Below.refl _ _) | (with_reducible assumption) | (with_reducible refine Below.new ?_ _) | (with_reducible refine Below.alloc ?_ ?_ _) | (with_reducible refine Below.drew ?_) | (with_reducible refine Below.drewN ?_ _) | (with_reducible refine Below.setCell ?_ ?_ _) | (refine Below.step ?_ (by assumption)) | go_size)), .inr ⟨by rw [HE.out]; decide, by rw [HE.out]⟩⟩
  · have HE : Hid (ofE s r = 100) := by unfold Hid ofE; rw [if_neg h1]
    have h1' : okSch s = false := by simpa using h1
    unfold okSch at h1'
    rw [h1'] at HR
    clear h1 h1' hbad
    go_enter Try.func30, Try.ntmps30
    go_wp2_with (first
      | (go_at_call 22; ((with_reducible refine (HR.out _ (by (repeat' (first | (with_reducible exact Below.refl _ _) | (with_reducible assumption) | (with_reducible refine Below.new ?_ _) | (with_reducible refine Below.alloc ?_ ?_ _) | (with_reducible refine Below.drew ?_) | (with_reducible refine Below.drewN ?_ _) | (with_reducible refine Below.setCell ?_ ?_ _) | (refine Below.step ?_ (by assumption)) | go_size)))).mono ?_); rintro e w1 ⟨rfl, hb1⟩; obtain ⟨hc1, hf1, hk1, hz1⟩ := bcell3 hb1; (try simp only [World.size_alloc, World.size_drew] at hz1); have : w.heap.size < w1.heap.size := (by omega); have : w.heap.size + 1 < w1.heap.size := (by omega); have : w.heap.size + 1 + 1 < w1.heap.size := (by omega))))
    ((show bodyPost _ _ _ _ _ _); refine bodyPost_ret (by simp only [results, Try.results30]; go_simp; try rfl) rfl ?_)
    exact ⟨by (repeat' (first | (with_reducible exact Below.refl _ _) | (with_reducible assumption) | (with_reducible refine Below.new ?_ _) | (with_reducible refine Below.alloc ?_ ?_ _) | (with_reducible refine Below.drew ?_) | (with_reducible refine Below.drewN ?_ _) | (with_reducible refine Below.setCell ?_ ?_ _) | (refine Below.step ?_ (by assumption)) | go_size)), .inr ⟨by rw [HE.out]; decide, by rw [HE.out]⟩⟩

set_option maxHeartbeats 4000000 in
theorem refOf_good (s : SchD) (r : RowD) (vd vm vl vn : Value) (w : World) (hd : StrsSl w vd s.ds) (hm : StrsSl w vm s.ms) (td : Texts s.ds) (tm : Texts s.ms) (hl : ValsSl w vl r.l) (tl : Vals r.l) (hn : IntsSl w vn r.xs) (hx : ∀ x ∈ r.xs, I64 x) (hf : fitsR s r = true) :
    Calls Try.prog 30 #[.agg #[vd, vm, .int .i64 s.g], .agg #[.int .i64 r.t, vl, vn]] w (RefOfPost s r vl vn w) := by
  obtain ⟨i0, hi, hiz0, hiz1, hiz2⟩ := info_parts info_wide
  obtain ⟨f1, f2, f3, _, f5⟩ := fits_len hf
  have f4 : r.xs.length ≤ 4 := by omega
  have HE : Hid (ofE s r = 0) := by unfold Hid ofE; rw [if_pos f5, if_pos hf]
  have HR := hid (fun W (h : Below w.heap.size w W) => refRight_any vd vm s.ds s.ms s.g W (hd.below h) (hm.below h) td tm)
  have HF := hid (fun W (h : Below w.heap.size w W) => refFits_any vd vm vl vn s.ds s.ms s.g r.t r.l r.xs.length _ W (hd.below h) (hm.below h) td tm (hl.below h) tl (SlAt.below hn h))
  have HG := hid (fun W => gRefCut_any r.t s.g W)
  rw [fits_cut hf] at HG
  have f5' : rightS s.ds s.ms s.g = true := f5
  have hf' : fitsS s.ds s.ms s.g r.t r.l r.xs.length = true := hf
  rw [f5'] at HR
  rw [hf'] at HF
  have HX := hid (fun k (hk : k < r.xs.length) => refOf_any r.xs[k] (hx _ (List.getElem_mem hk)))
  have HSN := hid (fun k (hk : k < r.xs.length) => wcells_snoc hk)
  have HN := hid hn; have HL := hid hl
  obtain ⟨ad, cd, rfl, _, _, _⟩ := SlAt.shape hd
  obtain ⟨am, cm, rfl, _, _, _⟩ := SlAt.shape hm
  obtain ⟨al, cl, rfl, _, _, _⟩ := SlAt.shape hl
  obtain ⟨an, cn, rfl, _, _, _⟩ := SlAt.shape hn
  clear hd hm hl hn td tm tl hf hf' f5 f5' f1 f2
  obtain ⟨T, hT⟩ : ∃ T, cutV r.t s.g = T := ⟨_, rfl⟩
  rw [hT] at HG
  have HTT := hid hT; clear hT
  go_enter Try.func30, Try.ntmps30
  go_wp2_with (first
    | (go_at_call 22; ((with_reducible refine (HR.out _ (by (repeat' (first | (with_reducible exact Below.refl _ _) | (with_reducible assumption) | (with_reducible refine Below.new ?_ _) | (with_reducible refine Below.alloc ?_ ?_ _) | (with_reducible refine Below.drew ?_) | (with_reducible refine Below.drewN ?_ _) | (with_reducible refine Below.setCell ?_ ?_ _) | (refine Below.step ?_ (by assumption)) | go_size)))).mono ?_); rintro e w1 ⟨rfl, hb1⟩; obtain ⟨hc1, hf1, hk1, hz1⟩ := bcell3 hb1; (try simp only [World.size_alloc, World.size_drew] at hz1); have : w.heap.size < w1.heap.size := (by omega); have : w.heap.size + 1 < w1.heap.size := (by omega); have : w.heap.size + 1 + 1 < w1.heap.size := (by omega)))
    | (go_at_call 24; ((with_reducible refine (HF.out _ (by (repeat' (first | (with_reducible exact Below.refl _ _) | (with_reducible assumption) | (with_reducible refine Below.new ?_ _) | (with_reducible refine Below.alloc ?_ ?_ _) | (with_reducible refine Below.drew ?_) | (with_reducible refine Below.drewN ?_ _) | (with_reducible refine Below.setCell ?_ ?_ _) | (refine Below.step ?_ (by assumption)) | go_size)))).mono ?_); rintro e w2 ⟨rfl, hb2⟩; obtain ⟨hc2, hf2, hk2, hz2⟩ := bcell3 hb2; (try simp only [World.size_alloc, World.size_drew] at hz2); have : w.heap.size < w2.heap.size := (by omega); have : w.heap.size + 1 < w2.heap.size := (by omega); have : w.heap.size + 1 + 1 < w2.heap.size := (by omega)))
    | (go_at_call 62; ((with_reducible refine (HG.out _).mono ?_); rintro e w3 ⟨rfl, rfl⟩)))
  have hB3 : Below w.heap.size w w2 := by (repeat' (first | (with_reducible exact Below.refl _ _) | (with_reducible assumption) | (with_reducible refine Below.new ?_ _) | (with_reducible refine Below.alloc ?_ ?_ _) | (with_reducible refine Below.drew ?_) | (with_reducible refine Below.drewN ?_ _) | (with_reducible refine Below.setCell ?_ ?_ _) | (refine Below.step ?_ (by assumption)) | go_size))
  have hk9 : w2.heap[w.heap.size + 1 + 1]? = some (.cells #[.int .i64 0, .slice none 0 0, .int .i64 0, .slice none 0 0, .slice none 0 0, .slice none 0 0] 46 (0, 0)) :=
    blk_below (blk_below (heap_at (by simp)) hb1) hb2
  have hk8 : w2.heap[w.heap.size + 1]? = some (.cells #[.int .i64 r.t, .slice al r.l.length cl, .slice an r.xs.length cn] 28 (0, 0)) := blk_below (blk_below ((heap_past (by simp)).trans (heap_at (by simp))) hb1) hb2
  have HB3 := hid hB3; have HK2 := hid hk9
  have hzw := hB3.size
  clear hb1 hc1 hf1 hk1 hz1 hb2 hc2 hf2 hk2 hz2 hk9 HR HF HG hB3
  obtain ⟨N, hN⟩ : ∃ N, r.xs.length = N := ⟨_, rfl⟩
  have HNN := hid hN
  rw [hN] at f4 hk8 ⊢
  clear hN
  have HK8 := hid hk8; clear hk8
  obtain ⟨B8, hB8⟩ : ∃ B, w2.heap.size = B := ⟨_, rfl⟩
  have HZ8 : Hid (w.heap.size + 1 + 1 < B8) := by unfold Hid; rw [← hB8]; exact blk_lt HK2.out
  have hzB : w.heap.size + 1 + 1 < B8 := HZ8.out
  have hS8 : (w2.alloc (.cells #[.int .i64 T, .slice al r.l.length cl, .int .i64 1, .slice none 0 0, .slice an N cn, .slice an N cn] 46)).heap[B8]? = some (.cells #[.int .i64 T, .slice al r.l.length cl, .int .i64 1, .slice none 0 0, .slice an N cn, .slice an N cn] 46 (0, 0)) := by rw [← hB8]; exact heap_at rfl
  have hS2 : (w2.alloc (.cells #[.int .i64 T, .slice al r.l.length cl, .int .i64 1, .slice none 0 0, .slice an N cn, .slice an N cn] 46)).heap[w.heap.size + 1 + 1]? = _ := blk_below HK2.out ((Below.refl _ _).alloc (Nat.le_refl _) _)
  have hS1 : (w2.alloc (.cells #[.int .i64 T, .slice al r.l.length cl, .int .i64 1, .slice none 0 0, .slice an N cn, .slice an N cn] 46)).heap[w.heap.size + 1]? = _ := blk_below HK8.out ((Below.refl _ _).alloc (Nat.le_refl _) _)
  have hSB : Below w.heap.size w (w2.alloc (.cells #[.int .i64 T, .slice al r.l.length cl, .int .i64 1, .slice none 0 0, .slice an N cn, .slice an N cn] 46)) := HB3.out.new _
  have HH := hid (And.intro hS8 (And.intro hS2 (And.intro hS1 hSB)))
  rw [hB8]
  clear hS8 hS2 hS1 hSB hB8
  go_loopw [9] (fun i wr => ∃ (k : Nat) (v : Value), k ≤ N ∧ i = .int .i64 (k : Nat) ∧ wr.heap[B8]? = some (.cells #[.int .i64 T, .slice al r.l.length cl, .int .i64 1, v, .slice an N cn, .slice an N cn] 46 (0, 0)) ∧ wr.heap[w.heap.size + 1 + 1]? = some (.cells #[.int .i64 0, .slice none 0 0, .int .i64 0, .slice none 0 0, .slice none 0 0, .slice none 0 0] 46 (0, 0)) ∧ wr.heap[w.heap.size + 1]? = some (.cells #[.int .i64 r.t, .slice al r.l.length cl, .slice an N cn] 28 (0, 0)) ∧ wr.ownsRow (B8 + 1) 58 2 v k ((r.xs.take k).flatMap wcells) ∧ Below w.heap.size w wr) (fun i _ => N - (intOf i).toNat)
  case atStart => exact ⟨0, _, Nat.zero_le _, rfl, HH.out.1, HH.out.2.1, HH.out.2.2.1, World.ownsRow_nil _ _ _ _, HH.out.2.2.2⟩
  case round =>
    obtain ⟨k, v, hk, rfl, hb8, hb2, hb1, hown, hbel⟩ := hrel
    clear HH
    obtain ⟨s0, s1, s2, _, _, _⟩ := three_at hb1
    have z1 := blk_lt hb1
    by_cases hkN : k < N
    · have hlen : k < r.xs.length := by rw [HNN.out]; exact hkN
      obtain ⟨b, off, rfl, hcell⟩ := (SlAt.parts HN.out).2.2.2.2 (by simp; omega)
      have ck := hcell k (.int .i64 r.xs[k]) (by rw [List.getElem?_map, List.getElem?_eq_getElem hlen]; rfl)
      have dk := cell_step ck hbel
      have HXK := hid (HX.out k hlen); have HSK := hid (HSN.out k hlen)
      have z8 := blk_lt hb8
      obtain ⟨c0, c1, c2, c3, c4, c5⟩ := six_at hb8
      have f3 : wr.frozen? ⟨B8, 3, none⟩ = false := blk_free hb8
      have H8 := hid hb8; have H2 := hid hb2; have H1 := hid hb1; have HO := hid hown; have HB := hid hbel
      obtain ⟨va, vc, hv⟩ := row_shape hown
      subst hv
      have g1 : (0 : Int) ≤ (k : Int) := Int.natCast_nonneg _
      have g2 : (k : Int) < (N : Int) := by omega
      generalize r.xs[k] = x at *
      clear hcell ck hb8 hb2 hb1 hown hbel
      go_wp2
      have hS0 : (fun w' : World => w'.cell? ⟨B8, 3, none⟩ = some (.slice va k vc) ∧ w'.cell? ⟨w.heap.size + 1, 2, none⟩ = some (.slice (some ⟨b, off, none⟩) N cn) ∧ w'.cell? ⟨b, off + k, none⟩ = some (.int .i64 x)) wr.drew := ⟨c3, s2, dk⟩
      refine wp_region_some (fun w' : World => w'.cell? ⟨B8, 3, none⟩ = some (.slice va k vc) ∧ w'.cell? ⟨w.heap.size + 1, 2, none⟩ = some (.slice (some ⟨b, off, none⟩) N cn) ∧ w'.cell? ⟨b, off + k, none⟩ = some (.int .i64 x)) [9, 10, 11] (by kernel_rfl) ?_
      (refine wpMix_take (i := 0) (v := ?_) rfl (by kernel_rfl) (fun _ _ _ h => h) (Or.inl ⟨by rfl, ?_⟩) hS0 ?_; rotate_left 1; (focus (intro w hSw; (try dsimp only at hSw); go_simp; try (with_reducible rfl))); (try simp only [Act.put, List.setIfInBounds_toArray, List.set_cons_zero, List.set_cons_succ]))
      (refine wpMix_take (i := 1) (v := ?_) rfl (by kernel_rfl) (fun _ _ _ h => h) (Or.inl ⟨by rfl, ?_⟩) hS0 ?_; rotate_left 1; (focus (intro w hSw; (try dsimp only at hSw); go_simp; try (with_reducible rfl))); (try simp only [Act.put, List.setIfInBounds_toArray, List.set_cons_zero, List.set_cons_succ]))
      (refine wpMix_take (i := 2) (v := ?_) rfl (by kernel_rfl) (fun _ _ _ h => h) (Or.inl ⟨by rfl, ?_⟩) hS0 ?_; rotate_left 1; (focus (intro w hSw; (try dsimp only at hSw); go_simp; try (with_reducible rfl))); (try simp only [Act.put, List.setIfInBounds_toArray, List.set_cons_zero, List.set_cons_succ]))
      (refine wpMix_take (i := 3) (v := ?_) rfl (by kernel_rfl) (fun _ _ _ h => h) (Or.inl ⟨by rfl, ?_⟩) hS0 ?_; rotate_left 1; (focus (intro w hSw; (try dsimp only at hSw); go_simp; try (with_reducible rfl))); (try simp only [Act.put, List.setIfInBounds_toArray, List.set_cons_zero, List.set_cons_succ]))
      (refine wpMix_take (i := 4) (v := ?_) rfl (by kernel_rfl) (fun _ _ _ h => h) (Or.inl ⟨by rfl, ?_⟩) hS0 ?_; rotate_left 1; (focus (intro w hSw; (try dsimp only at hSw); go_simp; try (with_reducible rfl))); (try simp only [Act.put, List.setIfInBounds_toArray, List.set_cons_zero, List.set_cons_succ]))
      (refine wpMix_take (i := 5) (v := ?_) rfl (by kernel_rfl) (fun _ _ _ h => h) (Or.inl ⟨by rfl, ?_⟩) hS0 ?_; rotate_left 1; (focus (intro w hSw; (try dsimp only at hSw); go_simp; try (with_reducible rfl))); (try simp only [Act.put, List.setIfInBounds_toArray, List.set_cons_zero, List.set_cons_succ]))
      (refine wpMix_take (i := 6) (v := ?_) rfl (by kernel_rfl) (fun _ _ _ h => h) (Or.inl ⟨by rfl, ?_⟩) hS0 ?_; rotate_left 1; (focus (intro w hSw; (try dsimp only at hSw); go_simp; try (with_reducible rfl))); (try simp only [Act.put, List.setIfInBounds_toArray, List.set_cons_zero, List.set_cons_succ]))
      refine wpMix_next (t := 7) (by kernel_rfl) ?_
      simp only [opsAt, List.flatMap_cons, List.flatMap_nil, List.take_succ_cons, List.take_zero, List.drop_succ_cons, List.drop_zero, List.append_nil, List.cons_append, List.nil_append]
      go_wp2_with (go_at_call 63; go_loud ((with_reducible refine (HXK.out _).mono ?_); rintro e w4 ⟨rfl, hb4⟩))
      replace hb4 : Below wr.heap.size wr w4 := (Below.drew (Below.refl _ _)).trans hb4
      refine ⟨⟨cell_step c3 hb4, cell_step s2 hb4, cell_step dk hb4⟩, ?_⟩
      refine wpMix_next (t := 8) (by kernel_rfl) ?_
      simp only [opsAt, List.flatMap_cons, List.flatMap_nil, List.take_succ_cons, List.take_zero, List.drop_succ_cons, List.drop_zero, List.append_nil, List.cons_append, List.nil_append]
      go_wp2
      refine ⟨⟨cell_new (w := w4) (cell_step c3 hb4) _, cell_new (w := w4) (cell_step s2 hb4) _, cell_new (w := w4) (cell_step dk hb4) _⟩, ?_⟩
      refine wpMix_rest [9, 10, 11] (by kernel_rfl) ?_
      simp only [opsAt, List.flatMap_cons, List.flatMap_nil, List.take_succ_cons, List.take_zero, List.drop_succ_cons, List.drop_zero, List.append_nil, List.cons_append, List.nil_append]
      have hz4 := hb4.size
      go_wp2_with (at_builtin; go_loud (refine wpList_append_sl _ rfl _ _ 44 rfl (B8 + 1) 58 i0 (.agg #[.int .i64 0, .int .u64 0]) 2 16 Try.underlying44 hi hiz0 hiz1 hiz2 rfl (by decide) (.slice va k vc) k _ rfl ((row_below HO.out hb4).alloc _) (.slice (some ⟨w4.heap.size, 0, none⟩) 1 1) 1 [.int .i64 (hiW x), .int .u64 (loW x)] rfl (SlAt.new w4 #[.int .i64 (hiW x), .int .u64 (loW x)] 58) (by simp [Value.oneCell']) (by unfold maxLen; omega) (by omega) (by simp; omega) ?_); intro v1 w5 hown5 hg5 hb5; obtain ⟨pa, pc, hv1⟩ := row_shape hown5; subst hv1; have hbk : w5.heap[B8]? = some (.cells #[.int .i64 T, .slice al r.l.length cl, .int .i64 1, .slice va k vc, .slice (some ⟨b, off, none⟩) N cn, .slice (some ⟨b, off, none⟩) N cn] 46 (0, 0)) := own_blk ((row_below HO.out hb4).alloc _) hg5 (by omega) ((heap_past (by omega)).trans (blk_below H8.out hb4)); have hbk2 : w5.heap[w.heap.size + 1 + 1]? = some (.cells #[.int .i64 0, .slice none 0 0, .int .i64 0, .slice none 0 0, .slice none 0 0, .slice none 0 0] 46 (0, 0)) := own_blk ((row_below HO.out hb4).alloc _) hg5 (by omega) ((heap_past (by omega)).trans (blk_below H2.out hb4)); have hbk1 : w5.heap[w.heap.size + 1]? = some (.cells #[.int .i64 r.t, .slice al r.l.length cl, .slice (some ⟨b, off, none⟩) N cn] 28 (0, 0)) := own_blk ((row_below HO.out hb4).alloc _) hg5 (by omega) ((heap_past (by omega)).trans (blk_below H1.out hb4)); have e3 : w5.cell? ⟨B8, 3, none⟩ = some (.slice va k vc) := (six_at hbk).2.2.2.1; have e4 : w5.frozen? ⟨B8, 3, none⟩ = false := blk_free hbk; have hbw : Below w.heap.size w w5 := own_below ((row_below HO.out hb4).alloc _) hg5 ((HB.out.step hb4).new _) (by omega); have H5 := hid (And.intro hown5 (And.intro hbk (And.intro hbk2 (And.intro hbk1 hbw)))); clear hown5 hbk hbk2 hbk1 hbw hg5 hb5)
      go_roundw
      case rel =>
        obtain ⟨r1, r2, r3, r5, r4⟩ := H5.out
        refine ⟨k + 1, _, hkN, by go_num, by simpa using blk_set (o := 3) (v := .slice pa (k + 1) pc) r2, (heap_set_other (by omega)).trans r3, (heap_set_other (by omega)).trans r5, ?_, r4.setCell (by simp; omega) _⟩
        rw [HSK.out]
        exact row_far r1 (by omega)
      case measure => simp [intOf]; omega
    · obtain rfl : k = N := by omega
      rw [List.take_of_length_le (by rw [HNN.out]; exact Nat.le_refl _)] at hown
      obtain ⟨va, vc, hv⟩ := row_shape hown
      subst hv
      obtain ⟨c0, c1, c2, c3, c4, c5⟩ := six_at hb8
      obtain ⟨a0, a1, a2, a3, a4, a5⟩ := six_at hb2
      obtain ⟨p0, p1, p2, p3, p4, p5⟩ := six_free hb2
      have HB := hid hbel
      have HO := hid hown
      have hz8 := blk_lt hb8
      have hz2 := blk_lt hb2
      clear hown hb8 hb2 hb1 hbel
      go_wp2
      ((show bodyPost _ _ _ _ _ _); refine bodyPost_ret (by simp only [results, Try.results30]; go_simp; try rfl) rfl ?_)
      refine ⟨by have h := HB.out; (repeat' (first | (with_reducible exact Below.refl _ _) | (with_reducible assumption) | (with_reducible refine Below.new ?_ _) | (with_reducible refine Below.alloc ?_ ?_ _) | (with_reducible refine Below.drew ?_) | (with_reducible refine Below.drewN ?_ _) | (with_reducible refine Below.setCell ?_ ?_ _) | (refine Below.step ?_ (by assumption)) | go_size)), .inl ⟨HE.out, _, by rw [HTT.out, HNN.out], ?_⟩⟩
      have ht : TurnO [w.heap.size + 1 + 1] wr _ := ((((((TurnO.refl [w.heap.size + 1 + 1] wr).setCell (b := w.heap.size + 1 + 1) (o := 0) (s := none) (.inl (by simp)) (.int .i64 T)).setCell (b := w.heap.size + 1 + 1) (o := 1) (s := none) (.inl (by simp)) (.slice al r.l.length cl)).setCell (b := w.heap.size + 1 + 1) (o := 2) (s := none) (.inl (by simp)) (.int .i64 1)).setCell (b := w.heap.size + 1 + 1) (o := 3) (s := none) (.inl (by simp)) (.slice va k vc)).setCell (b := w.heap.size + 1 + 1) (o := 4) (s := none) (.inl (by simp)) (.slice an k cn)).setCell (b := w.heap.size + 1 + 1) (o := 5) (s := none) (.inl (by simp)) (.slice an k cn)
      rw [HNN.out]
      exact (ht.row HO.out (fun g hg hgb => by
        have h1 := (HO.out.lt g hg).1
        have h2 : g = w.heap.size + 1 + 1 := by simpa using hgb
        omega)).base_le (by omega)
theorem refOf12_any (s : SchD) (r : RowD) (vd vm vl vn : Value) (w : World) (hd : StrsSl w vd s.ds) (hm : StrsSl w vm s.ms) (td : Texts s.ds) (tm : Texts s.ms) (hl : ValsSl w vl r.l) (tl : Vals r.l) (hn : IntsSl w vn r.xs) (hx : ∀ x ∈ r.xs, I64 x) :
    Calls Try.prog 30 #[.agg #[vd, vm, .int .i64 s.g], .agg #[.int .i64 r.t, vl, vn]] w (RefOfPost s r vl vn w) := by
  by_cases h : ofE s r = 0
  · refine refOf_good s r vd vm vl vn w hd hm td tm hl tl hn hx ?_
    unfold ofE at h
    split at h
    · split at h
      · assumption
      · cases h
    · cases h
  · exact refOf_bad s r vd vm vl vn w hd hm td tm hl tl hn h
end Go.Proofs.Ytdgeinipdphoeaa
/- Rollup: what two cells come to, by the reference. -/
namespace Go.Proofs.Ytdgeinipdphoeaa
set_option linter.unusedVariables false
set_option linter.unusedSimpArgs false
set_option maxRecDepth 100000
open Go.ChangeShapes Go.WideShapes Go.ChangeAt Go.RowKit

theorem zip_snoc (f : Int → Int → Int) {a b : List Int} {k : Nat} (h : k < a.length) (h' : k < b.length) : (List.zipWith f a b).take (k + 1) = (List.zipWith f a b).take k ++ [f a[k] b[k]] := by
  rw [List.take_succ_eq_append_getElem (by simp; omega), List.getElem_zipWith]
/-- How 'Both' stands in memory. -/
structure BothAt (w0 : World) (Ba Bb B4 B5 : Nat) (a b : CellD) (n : Int) (ua ub : CellV) (k1 k2 k3 : Nat) (vs vm vx : Value) (w : World) : Prop where
  ba : w.heap[Ba]? = some (.cells #[.int .i64 a.t, ua.vl, .int .i64 a.n, ua.vs, ua.vm, ua.vx] 46 (0, 0))
  bb : w.heap[Bb]? = some (.cells #[.int .i64 b.t, ub.vl, .int .i64 b.n, ub.vs, ub.vm, ub.vx] 46 (0, 0))
  res : w.heap[B4]? = some (.cells #[.int .i64 0, .slice none 0 0, .int .i64 0, .slice none 0 0, .slice none 0 0, .slice none 0 0] 46 (0, 0))
  blk : w.heap[B5]? = some (.cells #[.int .i64 a.t, ua.vl, .int .i64 n, vs, vm, vx] 46 (0, 0))
  lt : Ba < B5 ∧ Bb < B5 ∧ B4 < B5 ∧ w0.heap.size ≤ B5 ∧ w0.heap.size ≤ B4
  s : w.ownsRow (B5 + 1) 58 2 vs k1 (((List.zipWith (· + ·) a.sums b.sums).take k1).flatMap wcells)
  m : w.ownsRow (B5 + 1) 2 1 vm k2 (((List.zipWith min a.mins b.mins).take k2).map (Value.int .i64))
  x : w.ownsRow (B5 + 1) 2 1 vx k3 (((List.zipWith max a.maxs b.maxs).take k3).map (Value.int .i64))
  ne : ∀ g, vm.ownBlock = some g → ¬ vx.ownBlock = some g
  below : Below w0.heap.size w0 w
section
variable {w0 w w1 w5 : World} {Ba Bb B4 B5 k1 k2 k3 : Nat} {a b : CellD} {n : Int} {ua ub : CellV} {vs vm vx v' : Value}
theorem BothAt.step (h : BothAt w0 Ba Bb B4 B5 a b n ua ub k1 k2 k3 vs vm vx w) (hb : Below w.heap.size w w1) : BothAt w0 Ba Bb B4 B5 a b n ua ub k1 k2 k3 vs vm vx w1 :=
  ⟨blk_below h.ba hb, blk_below h.bb hb, blk_below h.res hb, blk_below h.blk hb, h.lt, row_below h.s hb, row_below h.m hb, row_below h.x hb, h.ne, h.below.step hb⟩
theorem kept_ne {e e' : TypeId} {size size' : Nat} {v x : Value} {n n' : Nat} {xs ys : List Value} {B B' : Nat} (hx : w1.ownsRow B e size x n xs) (hv : w1.ownsRow B' e' size' v n' ys) (he : e ≠ e') (hg : w1.grownBy w5 v.ownBlock) : w5.ownsRow B e size x n xs := by
  refine hx.kept hg ?_
  cases hxo : x.ownBlock with
  | none => exact .inl rfl
  | some g => exact .inr fun e => row_ne hx hv he hxo e.symm
theorem BothAt.addS (h : BothAt w0 Ba Bb B4 B5 a b n ua ub k1 k2 k3 vs vm vx w1) (hg : w1.grownBy w5 vs.ownBlock)
    (hown : w5.ownsRow (B5 + 1) 58 2 v' (k1 + 1) (((List.zipWith (· + ·) a.sums b.sums).take (k1 + 1)).flatMap wcells)) : BothAt w0 Ba Bb B4 B5 a b n ua ub (k1 + 1) k2 k3 v' vm vx (w5.setCell ⟨B5, 3, none⟩ v') := by
  obtain ⟨l1, l2, l3, l4, l5⟩ := h.lt
  refine ⟨(heap_set_other (by omega)).trans (own_blk h.s hg (by omega) h.ba), (heap_set_other (by omega)).trans (own_blk h.s hg (by omega) h.bb), (heap_set_other (by omega)).trans (own_blk h.s hg (by omega) h.res), ?_, h.lt, row_far hown (by omega), row_far (kept_ne h.m h.s (by decide) hg) (by omega), row_far (kept_ne h.x h.s (by decide) hg) (by omega), h.ne, (own_below h.s hg h.below (by omega)).setCell l4 _⟩
  have := blk_set (o := 3) (v := v') (own_blk h.s hg (by omega) h.blk)
  simpa using this
theorem BothAt.addM (h : BothAt w0 Ba Bb B4 B5 a b n ua ub k1 k2 k3 vs vm vx w1) (hg : w1.grownBy w5 vm.ownBlock) (hb : v'.ownBlock = vm.ownBlock ∨ v'.ownBlock = some w1.heap.size)
    (hown : w5.ownsRow (B5 + 1) 2 1 v' (k2 + 1) (((List.zipWith min a.mins b.mins).take (k2 + 1)).map (Value.int .i64))) : BothAt w0 Ba Bb B4 B5 a b n ua ub k1 (k2 + 1) k3 vs v' vx (w5.setCell ⟨B5, 4, none⟩ v') := by
  obtain ⟨l1, l2, l3, l4, l5⟩ := h.lt
  refine ⟨(heap_set_other (by omega)).trans (own_blk h.m hg (by omega) h.ba), (heap_set_other (by omega)).trans (own_blk h.m hg (by omega) h.bb), (heap_set_other (by omega)).trans (own_blk h.m hg (by omega) h.res), ?_, h.lt, row_far (kept_ne h.s h.m (by decide) hg) (by omega), row_far hown (by omega), row_far (h.x.kept hg ?_) (by omega), ?_, (own_below h.m hg h.below (by omega)).setCell l4 _⟩
  · have := blk_set (o := 4) (v := v') (own_blk h.m hg (by omega) h.blk)
    simpa using this
  · cases hxo : vx.ownBlock with
    | none => exact .inl rfl
    | some g => exact .inr fun e => h.ne g e.symm hxo
  · intro g hg1 hg2
    rcases hb with hb | hb
    · exact h.ne g (hb ▸ hg1) hg2
    · have h1 := (h.x.lt g hg2).2
      rw [hb] at hg1
      simp at hg1
      omega
theorem BothAt.addX (h : BothAt w0 Ba Bb B4 B5 a b n ua ub k1 k2 k3 vs vm vx w1) (hg : w1.grownBy w5 vx.ownBlock) (hb : v'.ownBlock = vx.ownBlock ∨ v'.ownBlock = some w1.heap.size)
    (hown : w5.ownsRow (B5 + 1) 2 1 v' (k3 + 1) (((List.zipWith max a.maxs b.maxs).take (k3 + 1)).map (Value.int .i64))) : BothAt w0 Ba Bb B4 B5 a b n ua ub k1 k2 (k3 + 1) vs vm v' (w5.setCell ⟨B5, 5, none⟩ v') := by
  obtain ⟨l1, l2, l3, l4, l5⟩ := h.lt
  refine ⟨(heap_set_other (by omega)).trans (own_blk h.x hg (by omega) h.ba), (heap_set_other (by omega)).trans (own_blk h.x hg (by omega) h.bb), (heap_set_other (by omega)).trans (own_blk h.x hg (by omega) h.res), ?_, h.lt, row_far (kept_ne h.s h.x (by decide) hg) (by omega), row_far (h.m.kept hg ?_) (by omega), row_far hown (by omega), ?_, (own_below h.x hg h.below (by omega)).setCell l4 _⟩
  · have := blk_set (o := 5) (v := v') (own_blk h.x hg (by omega) h.blk)
    simpa using this
  · cases hxo : vm.ownBlock with
    | none => exact .inl rfl
    | some g => exact .inr fun e => h.ne g hxo e.symm
  · intro g hg1 hg2
    rcases hb with hb | hb
    · exact h.ne g hg1 (hb ▸ hg2)
    · have h1 := (h.m.lt g hg1).2
      rw [hb] at hg2
      simp at hg2
      omega
end
def BothPost (w : World) (a b : CellD) (vl : Value) (e : Ending) (w' : World) : Prop :=
  Below w.heap.size w w' ∧ ∃ vs vm vx, e = .returned (.agg #[.int .i64 a.t, vl, .int .i64 (a.n + b.n), vs, vm, vx]) ∧ w'.ownsRow w.heap.size 58 2 vs (bothC a b).sums.length ((bothC a b).sums.flatMap wcells) ∧ w'.ownsRow w.heap.size 2 1 vm (bothC a b).mins.length ((bothC a b).mins.map (Value.int .i64)) ∧ w'.ownsRow w.heap.size 2 1 vx (bothC a b).maxs.length ((bothC a b).maxs.map (Value.int .i64))
end Go.Proofs.Ytdgeinipdphoeaa
/- Rollup: the walk of the reference's 'Both'. -/
namespace Go.Proofs.Ytdgeinipdphoeaa
set_option linter.unusedVariables false
set_option linter.unusedSimpArgs false
set_option maxRecDepth 100000
open Go.ChangeShapes Go.WideShapes Go.ChangeAt Go.RowKit

theorem wides_cell {w : World} {ao : Option Addr} {cap : Nat} {l : List Int} (h : WidesSl w (.slice ao l.length cap) l) {k : Nat} (hk : k < l.length) : ∃ b off, ao = some ⟨b, off, none⟩ ∧ w.cell? ⟨b, off + k * 2, none⟩ = some (.int .i64 (hiW l[k])) ∧ w.cell? ⟨b, off + k * 2 + 1, none⟩ = some (.int .u64 (loW l[k])) := by
  obtain ⟨ao', cap', e, _, _, _, hc⟩ := h.parts
  simp only [Value.slice.injEq, true_and] at e
  obtain ⟨rfl, rfl⟩ := e
  obtain ⟨b, off, rfl, hcell⟩ := hc (by omega)
  exact ⟨b, off, rfl, hcell k hk⟩
theorem ints_cell {w : World} {ao : Option Addr} {cap : Nat} {l : List Int} (h : IntsSl w (.slice ao l.length cap) l) {k : Nat} (hk : k < l.length) : ∃ b off, ao = some ⟨b, off, none⟩ ∧ w.cell? ⟨b, off + k, none⟩ = some (.int .i64 l[k]) := by
  obtain ⟨b, off, rfl, hcell⟩ := (SlAt.parts h).2.2.2.2 (by simp; omega)
  exact ⟨b, off, rfl, hcell k _ (by rw [List.getElem?_map, List.getElem?_eq_getElem hk]; rfl)⟩

set_option maxHeartbeats 8000000 in
theorem refBoth_any (m : Nat) (a b : CellD) (ua ub : CellV) (w : World) (ha : CellIs w (ua.row a) a) (hb : CellIs w (ub.row b) b) (la : a.sums.length = m ∧ a.mins.length = m ∧ a.maxs.length = m) (lb : b.sums.length = m ∧ b.mins.length = m ∧ b.maxs.length = m) (hm : m ≤ 1000000) (hsum : wrap64 (a.n + b.n) = a.n + b.n) :
    Calls Try.prog 88 #[.agg #[.int .i64 a.t, ua.vl, .int .i64 a.n, ua.vs, ua.vm, ua.vx], .agg #[.int .i64 b.t, ub.vl, .int .i64 b.n, ub.vs, ub.vm, ub.vx]] w (BothPost w a b ua.vl) := by
  obtain ⟨iw, hwi, hwz0, hwz1, hwz2⟩ := info_parts info_wide
  obtain ⟨ii, hii, hiz0, hiz1, hiz2⟩ := info_parts info_i64
  obtain ⟨ul, us, um, ux⟩ := ua
  obtain ⟨vl, vs, vm, vx⟩ := ub
  obtain ⟨_, _, _, _, e, a1, a2, a3, a4⟩ := ha
  simp only [CellV.row, List.cons.injEq, and_true, true_and] at e
  obtain ⟨rfl, rfl, rfl, rfl⟩ := e
  obtain ⟨_, _, _, _, e, b1, b2, b3, b4⟩ := hb
  simp only [CellV.row, List.cons.injEq, and_true, true_and] at e
  obtain ⟨rfl, rfl, rfl, rfl⟩ := e
  obtain ⟨A1, C1, rfl, _⟩ := SlAt.shape a1
  obtain ⟨A2, C2, rfl, _⟩ := SlAt.shape a2
  obtain ⟨A3, C3, rfl, _⟩ := SlAt.shape a3
  obtain ⟨A4, C4, rfl, _⟩ := SlAt.shape a4
  obtain ⟨E1, D1, rfl, _⟩ := SlAt.shape b1
  obtain ⟨E2, D2, rfl, _⟩ := SlAt.shape b2
  obtain ⟨E3, D3, rfl, _⟩ := SlAt.shape b3
  obtain ⟨E4, D4, rfl, _⟩ := SlAt.shape b4
  have HA := hid (And.intro a2 (And.intro a3 a4)); have HB := hid (And.intro b2 (And.intro b3 b4)); have HLA := hid la; have HLB := hid lb
  have HS : Hid (BothAt w w.heap.size (w.heap.size + 1) (w.heap.size + 1 + 1) (w.heap.size + 1 + 1 + 1) a b (a.n + b.n) ⟨.slice A1 a.l.length C1, .slice A2 a.sums.length C2, .slice A3 a.mins.length C3, .slice A4 a.maxs.length C4⟩ ⟨.slice E1 b.l.length D1, .slice E2 b.sums.length D2, .slice E3 b.mins.length D3, .slice E4 b.maxs.length D4⟩ 0 0 0 (.slice none 0 0) (.slice none 0 0) (.slice none 0 0)
      ((((w.alloc (.cells #[.int .i64 a.t, .slice A1 a.l.length C1, .int .i64 a.n, .slice A2 a.sums.length C2, .slice A3 a.mins.length C3, .slice A4 a.maxs.length C4] 46)).alloc (.cells #[.int .i64 b.t, .slice E1 b.l.length D1, .int .i64 b.n, .slice E2 b.sums.length D2, .slice E3 b.mins.length D3, .slice E4 b.maxs.length D4] 46)).alloc (.cells #[.int .i64 0, .slice none 0 0, .int .i64 0, .slice none 0 0, .slice none 0 0, .slice none 0 0] 46)).alloc (.cells #[.int .i64 a.t, .slice A1 a.l.length C1, .int .i64 (a.n + b.n), .slice none 0 0, .slice none 0 0, .slice none 0 0] 46))) :=
    ⟨by (simp (disch := first | omega | (simp only [World.size_alloc, World.size_setCell, World.size_drew]; done) | (simp only [World.size_alloc, World.size_setCell, World.size_drew]; omega)) only [heap_at, heap_past, heap_set_other, heap_set_same]), by (simp (disch := first | omega | (simp only [World.size_alloc, World.size_setCell, World.size_drew]; done) | (simp only [World.size_alloc, World.size_setCell, World.size_drew]; omega)) only [heap_at, heap_past, heap_set_other, heap_set_same]), by (simp (disch := first | omega | (simp only [World.size_alloc, World.size_setCell, World.size_drew]; done) | (simp only [World.size_alloc, World.size_setCell, World.size_drew]; omega)) only [heap_at, heap_past, heap_set_other, heap_set_same]), by (simp (disch := first | omega | (simp only [World.size_alloc, World.size_setCell, World.size_drew]; done) | (simp only [World.size_alloc, World.size_setCell, World.size_drew]; omega)) only [heap_at, heap_past, heap_set_other, heap_set_same]), ⟨by omega, by omega, by omega, by omega, by omega⟩, by simpa using World.ownsRow_nil _ _ _ _, by simpa using World.ownsRow_nil _ _ _ _, by simpa using World.ownsRow_nil _ _ _ _, fun g h => by simp [Value.ownBlock] at h, by (repeat' (first | (with_reducible exact Below.refl _ _) | (with_reducible assumption) | (with_reducible refine Below.new ?_ _) | (with_reducible refine Below.alloc ?_ ?_ _) | (with_reducible refine Below.drew ?_) | (with_reducible refine Below.drewN ?_ _) | (with_reducible refine Below.setCell ?_ ?_ _) | (refine Below.step ?_ (by assumption)) | go_size))⟩
  clear a1 a2 a3 a4 b1 b2 b3 b4 la lb
  go_enter Try.func88, Try.ntmps88
  go_wp2
  obtain ⟨Ba, hBa⟩ : ∃ x, w.heap.size = x := ⟨_, rfl⟩
  obtain ⟨Bb, hBb⟩ : ∃ x, w.heap.size + 1 = x := ⟨_, rfl⟩
  obtain ⟨B4, hB4⟩ : ∃ x, w.heap.size + 1 + 1 = x := ⟨_, rfl⟩
  obtain ⟨B5, hB5⟩ : ∃ x, w.heap.size + 1 + 1 + 1 = x := ⟨_, rfl⟩
  rw [hB5, hB4, hBb] at HS ⊢
  clear hB5 hB4 hBb hBa
  rw [hsum]
  go_loopw [6] (fun i wr => ∃ (k : Nat) (vs vm vx : Value), k ≤ m ∧ i = .int .i64 (k : Nat) ∧ BothAt w w.heap.size Bb B4 B5 a b (a.n + b.n) ⟨.slice A1 a.l.length C1, .slice A2 a.sums.length C2, .slice A3 a.mins.length C3, .slice A4 a.maxs.length C4⟩ ⟨.slice E1 b.l.length D1, .slice E2 b.sums.length D2, .slice E3 b.mins.length D3, .slice E4 b.maxs.length D4⟩ k k k vs vm vx wr) (fun i _ => m - (intOf i).toNat)
  case atStart => exact ⟨0, _, _, _, Nat.zero_le _, rfl, HS.out⟩
  case round =>
    obtain ⟨k, xs, xm, xx, hk, rfl, hat⟩ := hrel
    clear HS
    have HAT := hid hat
    have hk0 : (0 : Int) ≤ (k : Int) := Int.natCast_nonneg _
    obtain ⟨i1, i2, i3⟩ := HLA.out
    obtain ⟨j1, j2, j3⟩ := HLB.out
    obtain ⟨c0, c1, c2, c3, c4, c5⟩ := six_at hat.ba
    dsimp only at c1 c3 c4 c5
    rw [i1] at c3
    by_cases hlt : k < m
    · have hkm : (k : Int) < (m : Int) := by omega
      have ka1 : k < a.sums.length := by omega
      have ka2 : k < a.mins.length := by omega
      have ka3 : k < a.maxs.length := by omega
      have kb1 : k < b.sums.length := by omega
      have kb2 : k < b.mins.length := by omega
      have kb3 : k < b.maxs.length := by omega
      obtain ⟨p, o, rfl, x1, x2⟩ := wides_cell (HA.out.1.below hat.below) ka1
      obtain ⟨q, u, rfl, x3, x4⟩ := wides_cell (HB.out.1.below hat.below) kb1
      obtain ⟨d0, d1, d2, d3, d4, d5⟩ := six_at hat.bb
      obtain ⟨n0, n1, n2, n3, n4, n5⟩ := six_at hat.blk
      dsimp only at d3
      rw [j1] at d3
      obtain ⟨va, vc, rfl⟩ := row_shape hat.s
      have HADD := hid (fun W => refAdd_any a.sums[k] b.sums[k] W)
      have HSN := hid (zip_snoc (· + ·) (a := a.sums) (b := b.sums) ka1 kb1)
      have HLT := hid hat.lt
      have z5 := blk_lt hat.blk
      have zB := hat.below.size
      clear hat i1 i2 i3 j1 j2 j3 n0 n1 n2 n4 n5 d0 d1 d2 d4 d5 c0 c1 c2 c4 c5
      obtain ⟨N, hN⟩ : ∃ N, a.sums[k] + b.sums[k] = N := ⟨_, rfl⟩
      rw [hN] at HADD HSN
      clear hN
      generalize hiW a.sums[k] = f1 at *
      generalize loW a.sums[k] = f2 at *
      generalize hiW b.sums[k] = f3 at *
      generalize loW b.sums[k] = f4 at *
      go_wp2
      have hS0 : (fun w' : World => w'.cell? ⟨B5, 3, none⟩ = some (.slice va k vc) ∧ w'.cell? ⟨w.heap.size, 3, none⟩ = some (.slice (some ⟨p, o, none⟩) m C2) ∧ w'.cell? ⟨Bb, 3, none⟩ = some (.slice (some ⟨q, u, none⟩) m D2) ∧ w'.cell? ⟨p, o + k * 2, none⟩ = some (.int .i64 f1) ∧ w'.cell? ⟨p, o + k * 2 + 1, none⟩ = some (.int .u64 f2) ∧ w'.cell? ⟨q, u + k * 2, none⟩ = some (.int .i64 f3) ∧ w'.cell? ⟨q, u + k * 2 + 1, none⟩ = some (.int .u64 f4)) wr.drew := ⟨n3, c3, d3, x1, x2, x3, x4⟩
      refine wp_region_some (fun w' : World => w'.cell? ⟨B5, 3, none⟩ = some (.slice va k vc) ∧ w'.cell? ⟨w.heap.size, 3, none⟩ = some (.slice (some ⟨p, o, none⟩) m C2) ∧ w'.cell? ⟨Bb, 3, none⟩ = some (.slice (some ⟨q, u, none⟩) m D2) ∧ w'.cell? ⟨p, o + k * 2, none⟩ = some (.int .i64 f1) ∧ w'.cell? ⟨p, o + k * 2 + 1, none⟩ = some (.int .u64 f2) ∧ w'.cell? ⟨q, u + k * 2, none⟩ = some (.int .i64 f3) ∧ w'.cell? ⟨q, u + k * 2 + 1, none⟩ = some (.int .u64 f4)) [14, 15, 16] (by kernel_rfl) ?_
      (refine wpMix_take (i := 0) (v := ?_) rfl (by kernel_rfl) (fun _ _ _ h => h) (Or.inl ⟨by rfl, ?_⟩) hS0 ?_; rotate_left 1; (focus (intro w hSw; (try dsimp only at hSw); go_simp; try (with_reducible rfl))); (try simp only [Act.put, List.setIfInBounds_toArray, List.set_cons_zero, List.set_cons_succ]))
      (refine wpMix_take (i := 1) (v := ?_) rfl (by kernel_rfl) (fun _ _ _ h => h) (Or.inl ⟨by rfl, ?_⟩) hS0 ?_; rotate_left 1; (focus (intro w hSw; (try dsimp only at hSw); go_simp; try (with_reducible rfl))); (try simp only [Act.put, List.setIfInBounds_toArray, List.set_cons_zero, List.set_cons_succ]))
      (refine wpMix_take (i := 2) (v := ?_) rfl (by kernel_rfl) (fun _ _ _ h => h) (Or.inl ⟨by rfl, ?_⟩) hS0 ?_; rotate_left 1; (focus (intro w hSw; (try dsimp only at hSw); go_simp; try (with_reducible rfl))); (try simp only [Act.put, List.setIfInBounds_toArray, List.set_cons_zero, List.set_cons_succ]))
      (refine wpMix_take (i := 3) (v := ?_) rfl (by kernel_rfl) (fun _ _ _ h => h) (Or.inl ⟨by rfl, ?_⟩) hS0 ?_; rotate_left 1; (focus (intro w hSw; (try dsimp only at hSw); go_simp; try (with_reducible rfl))); (try simp only [Act.put, List.setIfInBounds_toArray, List.set_cons_zero, List.set_cons_succ]))
      (refine wpMix_take (i := 4) (v := ?_) rfl (by kernel_rfl) (fun _ _ _ h => h) (Or.inl ⟨by rfl, ?_⟩) hS0 ?_; rotate_left 1; (focus (intro w hSw; (try dsimp only at hSw); go_simp; try (with_reducible rfl))); (try simp only [Act.put, List.setIfInBounds_toArray, List.set_cons_zero, List.set_cons_succ]))
      (refine wpMix_take (i := 5) (v := ?_) rfl (by kernel_rfl) (fun _ _ _ h => h) (Or.inl ⟨by rfl, ?_⟩) hS0 ?_; rotate_left 1; (focus (intro w hSw; (try dsimp only at hSw); go_simp; try (with_reducible rfl))); (try simp only [Act.put, List.setIfInBounds_toArray, List.set_cons_zero, List.set_cons_succ]))
      (refine wpMix_take (i := 6) (v := ?_) rfl (by kernel_rfl) (fun _ _ _ h => h) (Or.inl ⟨by rfl, ?_⟩) hS0 ?_; rotate_left 1; (focus (intro w hSw; (try dsimp only at hSw); go_simp; try (with_reducible rfl))); (try simp only [Act.put, List.setIfInBounds_toArray, List.set_cons_zero, List.set_cons_succ]))
      (refine wpMix_take (i := 7) (v := ?_) rfl (by kernel_rfl) (fun _ _ _ h => h) (Or.inl ⟨by rfl, ?_⟩) hS0 ?_; rotate_left 1; (focus (intro w hSw; (try dsimp only at hSw); go_simp; try (with_reducible rfl))); (try simp only [Act.put, List.setIfInBounds_toArray, List.set_cons_zero, List.set_cons_succ]))
      (refine wpMix_take (i := 8) (v := ?_) rfl (by kernel_rfl) (fun _ _ _ h => h) (Or.inl ⟨by rfl, ?_⟩) hS0 ?_; rotate_left 1; (focus (intro w hSw; (try dsimp only at hSw); go_simp; try (with_reducible rfl))); (try simp only [Act.put, List.setIfInBounds_toArray, List.set_cons_zero, List.set_cons_succ]))
      (refine wpMix_take (i := 9) (v := ?_) rfl (by kernel_rfl) (fun _ _ _ h => h) (Or.inl ⟨by rfl, ?_⟩) hS0 ?_; rotate_left 1; (focus (intro w hSw; (try dsimp only at hSw); go_simp; try (with_reducible rfl))); (try simp only [Act.put, List.setIfInBounds_toArray, List.set_cons_zero, List.set_cons_succ]))
      (refine wpMix_take (i := 10) (v := ?_) rfl (by kernel_rfl) (fun _ _ _ h => h) (Or.inl ⟨by rfl, ?_⟩) hS0 ?_; rotate_left 1; (focus (intro w hSw; (try dsimp only at hSw); go_simp; try (with_reducible rfl))); (try simp only [Act.put, List.setIfInBounds_toArray, List.set_cons_zero, List.set_cons_succ]))
      (refine wpMix_take (i := 11) (v := ?_) rfl (by kernel_rfl) (fun _ _ _ h => h) (Or.inl ⟨by rfl, ?_⟩) hS0 ?_; rotate_left 1; (focus (intro w hSw; (try dsimp only at hSw); go_simp; try (with_reducible rfl))); (try simp only [Act.put, List.setIfInBounds_toArray, List.set_cons_zero, List.set_cons_succ]))
      refine wpMix_next (t := 12) (by kernel_rfl) ?_
      simp only [opsAt, List.flatMap_cons, List.flatMap_nil, List.take_succ_cons, List.take_zero, List.drop_succ_cons, List.drop_zero, List.append_nil, List.cons_append, List.nil_append]
      go_wp2_with (go_at_call 107; go_loud ((with_reducible refine (HADD.out _).mono ?_); rintro e w4 ⟨rfl, hb4⟩))
      replace hb4 : Below wr.heap.size wr w4 := (Below.drew (Below.refl _ _)).trans hb4
      have hS1 := show (_ ∧ _ ∧ _ ∧ _ ∧ _ ∧ _ ∧ _) from ⟨cell_step n3 hb4, cell_step c3 hb4, cell_step d3 hb4, cell_step x1 hb4, cell_step x2 hb4, cell_step x3 hb4, cell_step x4 hb4⟩
      refine ⟨hS1, ?_⟩
      refine wpMix_next (t := 13) (by kernel_rfl) ?_
      simp only [opsAt, List.flatMap_cons, List.flatMap_nil, List.take_succ_cons, List.take_zero, List.drop_succ_cons, List.drop_zero, List.append_nil, List.cons_append, List.nil_append]
      go_wp2
      refine ⟨⟨cell_new (w := w4) hS1.1 _, cell_new (w := w4) hS1.2.1 _, cell_new (w := w4) hS1.2.2.1 _, cell_new (w := w4) hS1.2.2.2.1 _, cell_new (w := w4) hS1.2.2.2.2.1 _, cell_new (w := w4) hS1.2.2.2.2.2.1 _, cell_new (w := w4) hS1.2.2.2.2.2.2 _⟩, ?_⟩
      refine wpMix_rest [14, 15, 16] (by kernel_rfl) ?_
      simp only [opsAt, List.flatMap_cons, List.flatMap_nil, List.take_succ_cons, List.take_zero, List.drop_succ_cons, List.drop_zero, List.append_nil, List.cons_append, List.nil_append]
      have hz4 := hb4.size
      have HAT4 := hid (HAT.out.step (hb4.new (.cells #[.int .i64 (hiW N), .int .u64 (loW N)] 58)))
      clear hS0 hS1 n3 c3 d3 x1 x2 x3 x4 hb4
      go_wp2_with (at_builtin; go_loud (refine wpList_append_sl _ rfl _ _ 44 rfl (B5 + 1) 58 iw (.agg #[.int .i64 0, .int .u64 0]) 2 16 Try.underlying44 hwi hwz0 hwz1 hwz2 rfl (by decide) (.slice va k vc) k _ rfl HAT4.out.s (.slice (some ⟨w4.heap.size, 0, none⟩) 1 1) 1 [.int .i64 (hiW N), .int .u64 (loW N)] rfl (SlAt.new w4 #[.int .i64 (hiW N), .int .u64 (loW N)] 58) (by simp [Value.oneCell']) (by unfold maxLen; omega) (by omega) (by have := HLT.out; simp; omega) ?_); intro v1 w5 hown5 hg5 hb5; have hblk5 := own_blk HAT4.out.s hg5 (by omega) HAT4.out.blk; have e3 : w5.cell? ⟨B5, 3, none⟩ = some (.slice va k vc) := (six_at hblk5).2.2.2.1; have e4 : w5.frozen? ⟨B5, 3, none⟩ = false := blk_free hblk5; obtain ⟨pa, pc, hv1⟩ := row_shape hown5; subst hv1; have hatS := HAT4.out.addS hg5 (by rw [HSN.out, List.flatMap_append]; simpa [wcells] using hown5); have HAS := hid hatS; clear hatS hown5 hg5 hb5 hblk5)
      obtain ⟨W5, hW5⟩ : ∃ W, w5.setCell ⟨B5, 3, none⟩ (.slice pa (k + 1) pc) = W := ⟨_, rfl⟩
      rw [hW5] at HAS ⊢
      clear hW5 e3 e4
      have hat := HAS.out
      obtain ⟨i1, i2, i3⟩ := HLA.out
      obtain ⟨j1, j2, j3⟩ := HLB.out
      obtain ⟨p4, o4, rfl, x1⟩ := ints_cell (HA.out.2.1.below hat.below) ka2
      obtain ⟨q4, u4, rfl, x3⟩ := ints_cell (HB.out.2.1.below hat.below) kb2
      obtain ⟨c0, c1, c2, c3, c4, c5⟩ := six_at hat.ba
      obtain ⟨d0, d1, d2, d3, d4, d5⟩ := six_at hat.bb
      obtain ⟨n0, n1, n2, n3, n4, n5⟩ := six_at hat.blk
      dsimp only at c4 d4
      rw [i2] at c4
      rw [j2] at d4
      obtain ⟨va4, vc4, rfl⟩ := row_shape hat.m
      have HSN4 := hid (zip_snoc min (a := a.mins) (b := b.mins) ka2 kb2)
      have z4 := blk_lt hat.blk
      have zB4 := hat.below.size
      have im4 := ite_min
      clear hat i1 i2 i3 j1 j2 j3 c0 c1 c2 c3 c5 d0 d1 d2 d3 d5 n0 n1 n2 n3 n5
      generalize a.mins[k] = g1 at *
      generalize b.mins[k] = g2 at *
      go_wp2
      have hS0 : (fun w' : World => w'.cell? ⟨B5, 4, none⟩ = some (.slice va4 k vc4) ∧ w'.cell? ⟨w.heap.size, 4, none⟩ = some (.slice (some ⟨p4, o4, none⟩) m C3) ∧ w'.cell? ⟨Bb, 4, none⟩ = some (.slice (some ⟨q4, u4, none⟩) m D3) ∧ w'.cell? ⟨p4, o4 + k, none⟩ = some (.int .i64 g1) ∧ w'.cell? ⟨q4, u4 + k, none⟩ = some (.int .i64 g2)) W5.drew := ⟨n4, c4, d4, x1, x3⟩
      refine wp_region_some (fun w' : World => w'.cell? ⟨B5, 4, none⟩ = some (.slice va4 k vc4) ∧ w'.cell? ⟨w.heap.size, 4, none⟩ = some (.slice (some ⟨p4, o4, none⟩) m C3) ∧ w'.cell? ⟨Bb, 4, none⟩ = some (.slice (some ⟨q4, u4, none⟩) m D3) ∧ w'.cell? ⟨p4, o4 + k, none⟩ = some (.int .i64 g1) ∧ w'.cell? ⟨q4, u4 + k, none⟩ = some (.int .i64 g2)) [14, 15, 16] (by kernel_rfl) ?_
      (refine wpMix_take (i := 0) (v := ?_) rfl (by kernel_rfl) (fun _ _ _ h => h) (Or.inl ⟨by rfl, ?_⟩) hS0 ?_; rotate_left 1; (focus (intro w hSw; (try dsimp only at hSw); go_simp; try (with_reducible rfl))); (try simp only [Act.put, List.setIfInBounds_toArray, List.set_cons_zero, List.set_cons_succ]))
      (refine wpMix_take (i := 1) (v := ?_) rfl (by kernel_rfl) (fun _ _ _ h => h) (Or.inl ⟨by rfl, ?_⟩) hS0 ?_; rotate_left 1; (focus (intro w hSw; (try dsimp only at hSw); go_simp; try (with_reducible rfl))); (try simp only [Act.put, List.setIfInBounds_toArray, List.set_cons_zero, List.set_cons_succ]))
      (refine wpMix_take (i := 2) (v := ?_) rfl (by kernel_rfl) (fun _ _ _ h => h) (Or.inl ⟨by rfl, ?_⟩) hS0 ?_; rotate_left 1; (focus (intro w hSw; (try dsimp only at hSw); go_simp; try (with_reducible rfl))); (try simp only [Act.put, List.setIfInBounds_toArray, List.set_cons_zero, List.set_cons_succ]))
      (refine wpMix_take (i := 3) (v := ?_) rfl (by kernel_rfl) (fun _ _ _ h => h) (Or.inl ⟨by rfl, ?_⟩) hS0 ?_; rotate_left 1; (focus (intro w hSw; (try dsimp only at hSw); go_simp; try (with_reducible rfl))); (try simp only [Act.put, List.setIfInBounds_toArray, List.set_cons_zero, List.set_cons_succ]))
      (refine wpMix_take (i := 4) (v := ?_) rfl (by kernel_rfl) (fun _ _ _ h => h) (Or.inl ⟨by rfl, ?_⟩) hS0 ?_; rotate_left 1; (focus (intro w hSw; (try dsimp only at hSw); go_simp; try (with_reducible rfl))); (try simp only [Act.put, List.setIfInBounds_toArray, List.set_cons_zero, List.set_cons_succ]))
      (refine wpMix_take (i := 5) (v := ?_) rfl (by kernel_rfl) (fun _ _ _ h => h) (Or.inl ⟨by rfl, ?_⟩) hS0 ?_; rotate_left 1; (focus (intro w hSw; (try dsimp only at hSw); go_simp; try (with_reducible rfl))); (try simp only [Act.put, List.setIfInBounds_toArray, List.set_cons_zero, List.set_cons_succ]))
      (refine wpMix_take (i := 6) (v := ?_) rfl (by kernel_rfl) (fun _ _ _ h => h) (Or.inl ⟨by rfl, ?_⟩) hS0 ?_; rotate_left 1; (focus (intro w hSw; (try dsimp only at hSw); go_simp; try (with_reducible rfl))); (try simp only [Act.put, List.setIfInBounds_toArray, List.set_cons_zero, List.set_cons_succ]))
      (refine wpMix_take (i := 7) (v := ?_) rfl (by kernel_rfl) (fun _ _ _ h => h) (Or.inl ⟨by rfl, ?_⟩) hS0 ?_; rotate_left 1; (focus (intro w hSw; (try dsimp only at hSw); go_simp; try (with_reducible rfl))); (try simp only [Act.put, List.setIfInBounds_toArray, List.set_cons_zero, List.set_cons_succ]))
      (refine wpMix_take (i := 8) (v := ?_) rfl (by kernel_rfl) (fun _ _ _ h => h) (Or.inl ⟨by rfl, ?_⟩) hS0 ?_; rotate_left 1; (focus (intro w hSw; (try dsimp only at hSw); go_simp; try (with_reducible rfl))); (try simp only [Act.put, List.setIfInBounds_toArray, List.set_cons_zero, List.set_cons_succ]))
      (refine wpMix_take (i := 9) (v := ?_) rfl (by kernel_rfl) (fun _ _ _ h => h) (Or.inl ⟨by rfl, ?_⟩) hS0 ?_; rotate_left 1; (focus (intro w hSw; (try dsimp only at hSw); go_simp; try (with_reducible rfl))); (try simp only [Act.put, List.setIfInBounds_toArray, List.set_cons_zero, List.set_cons_succ]))
      (refine wpMix_take (i := 10) (v := ?_) rfl (by kernel_rfl) (fun _ _ _ h => h) (Or.inl ⟨by rfl, ?_⟩) hS0 ?_; rotate_left 1; (focus (intro w hSw; (try dsimp only at hSw); go_simp; try (with_reducible rfl))); (try simp only [Act.put, List.setIfInBounds_toArray, List.set_cons_zero, List.set_cons_succ]))
      (refine wpMix_take (i := 11) (v := ?_) rfl (by kernel_rfl) (fun _ _ _ h => h) (Or.inl ⟨by rfl, ?_⟩) hS0 ?_; rotate_left 1; (focus (intro w hSw; (try dsimp only at hSw); go_simp; try (with_reducible rfl))); (try simp only [Act.put, List.setIfInBounds_toArray, List.set_cons_zero, List.set_cons_succ]))
      (refine wpMix_take (i := 12) (v := ?_) rfl (by kernel_rfl) (fun _ _ _ h => h) (Or.inl ⟨by rfl, ?_⟩) hS0 ?_; rotate_left 1; (focus (intro w hSw; (try dsimp only at hSw); go_simp; try (with_reducible rfl))); (try simp only [Act.put, List.setIfInBounds_toArray, List.set_cons_zero, List.set_cons_succ]))
      refine wpMix_next (t := 13) (by kernel_rfl) ?_
      simp only [opsAt, List.flatMap_cons, List.flatMap_nil, List.take_succ_cons, List.take_zero, List.drop_succ_cons, List.drop_zero, List.append_nil, List.cons_append, List.nil_append]
      go_wp2
      refine ⟨⟨cell_new (w := W5) n4 _, cell_new (w := W5) c4 _, cell_new (w := W5) d4 _, cell_new (w := W5) x1 _, cell_new (w := W5) x3 _⟩, ?_⟩
      refine wpMix_rest [14, 15, 16] (by kernel_rfl) ?_
      simp only [opsAt, List.flatMap_cons, List.flatMap_nil, List.take_succ_cons, List.take_zero, List.drop_succ_cons, List.drop_zero, List.append_nil, List.cons_append, List.nil_append]
      have HAT4 := hid (HAS.out.step (((Below.refl _ _).new (.cells #[.int .i64 (min g1 g2)] 2)).drew))
      clear hS0 n4 c4 d4 x1 x3
      go_wp2_with (at_builtin; go_loud (refine wpList_append_sl _ rfl _ _ 26 rfl (B5 + 1) 2 ii (.int .i64 0) 1 8 Try.underlying26 hii hiz0 hiz1 hiz2 rfl (by decide) (.slice va4 k vc4) k _ rfl HAT4.out.m (.slice (some ⟨W5.heap.size, 0, none⟩) 1 1) 1 [.int .i64 (min g1 g2)] rfl ((SlAt.new W5 #[.int .i64 (min g1 g2)] 2).drew) (by simp [Value.oneCell']) (by unfold maxLen; omega) (by omega) (by have := HLT.out; simp; omega) ?_); intro v1 w5 hown5 hg5 hb5; have hblk5 := own_blk HAT4.out.m hg5 (by omega) HAT4.out.blk; have e3 : w5.cell? ⟨B5, 4, none⟩ = some (.slice va4 k vc4) := (six_at hblk5).2.2.2.2.1; have e4 : w5.frozen? ⟨B5, 4, none⟩ = false := blk_free hblk5; have hatS := HAT4.out.addM hg5 hb5 (by rw [HSN4.out, List.map_append]; simpa using hown5); obtain ⟨pa4, pc4, hv1⟩ := row_shape hown5; subst hv1; have HAM := hid hatS; clear hatS hown5 hg5 hb5 hblk5)
      obtain ⟨W6, hW5⟩ : ∃ W, w5.setCell ⟨B5, 4, none⟩ (.slice pa4 (k + 1) pc4) = W := ⟨_, rfl⟩
      rw [hW5] at HAM ⊢
      clear hW5 e3 e4
      have hat := HAM.out
      obtain ⟨i1, i2, i3⟩ := HLA.out
      obtain ⟨j1, j2, j3⟩ := HLB.out
      obtain ⟨p5, o5, rfl, x1⟩ := ints_cell (HA.out.2.2.below hat.below) ka3
      obtain ⟨q5, u5, rfl, x3⟩ := ints_cell (HB.out.2.2.below hat.below) kb3
      obtain ⟨c0, c1, c2, c3, c4, c5⟩ := six_at hat.ba
      obtain ⟨d0, d1, d2, d3, d4, d5⟩ := six_at hat.bb
      obtain ⟨n0, n1, n2, n3, n4, n5⟩ := six_at hat.blk
      dsimp only at c5 d5
      rw [i3] at c5
      rw [j3] at d5
      obtain ⟨va5, vc5, rfl⟩ := row_shape hat.x
      have HSN5 := hid (zip_snoc max (a := a.maxs) (b := b.maxs) ka3 kb3)
      have z5 := blk_lt hat.blk
      have zB5 := hat.below.size
      have ix5 := ite_max
      clear hat i1 i2 i3 j1 j2 j3 c0 c1 c2 c3 c4 d0 d1 d2 d3 d4 n0 n1 n2 n3 n4
      generalize a.maxs[k] = g1 at *
      generalize b.maxs[k] = g2 at *
      go_wp2
      have hS0 : (fun w' : World => w'.cell? ⟨B5, 5, none⟩ = some (.slice va5 k vc5) ∧ w'.cell? ⟨w.heap.size, 5, none⟩ = some (.slice (some ⟨p5, o5, none⟩) m C4) ∧ w'.cell? ⟨Bb, 5, none⟩ = some (.slice (some ⟨q5, u5, none⟩) m D4) ∧ w'.cell? ⟨p5, o5 + k, none⟩ = some (.int .i64 g1) ∧ w'.cell? ⟨q5, u5 + k, none⟩ = some (.int .i64 g2)) W6.drew := ⟨n5, c5, d5, x1, x3⟩
      refine wp_region_some (fun w' : World => w'.cell? ⟨B5, 5, none⟩ = some (.slice va5 k vc5) ∧ w'.cell? ⟨w.heap.size, 5, none⟩ = some (.slice (some ⟨p5, o5, none⟩) m C4) ∧ w'.cell? ⟨Bb, 5, none⟩ = some (.slice (some ⟨q5, u5, none⟩) m D4) ∧ w'.cell? ⟨p5, o5 + k, none⟩ = some (.int .i64 g1) ∧ w'.cell? ⟨q5, u5 + k, none⟩ = some (.int .i64 g2)) [14, 15, 16] (by kernel_rfl) ?_
      (refine wpMix_take (i := 0) (v := ?_) rfl (by kernel_rfl) (fun _ _ _ h => h) (Or.inl ⟨by rfl, ?_⟩) hS0 ?_; rotate_left 1; (focus (intro w hSw; (try dsimp only at hSw); go_simp; try (with_reducible rfl))); (try simp only [Act.put, List.setIfInBounds_toArray, List.set_cons_zero, List.set_cons_succ]))
      (refine wpMix_take (i := 1) (v := ?_) rfl (by kernel_rfl) (fun _ _ _ h => h) (Or.inl ⟨by rfl, ?_⟩) hS0 ?_; rotate_left 1; (focus (intro w hSw; (try dsimp only at hSw); go_simp; try (with_reducible rfl))); (try simp only [Act.put, List.setIfInBounds_toArray, List.set_cons_zero, List.set_cons_succ]))
      (refine wpMix_take (i := 2) (v := ?_) rfl (by kernel_rfl) (fun _ _ _ h => h) (Or.inl ⟨by rfl, ?_⟩) hS0 ?_; rotate_left 1; (focus (intro w hSw; (try dsimp only at hSw); go_simp; try (with_reducible rfl))); (try simp only [Act.put, List.setIfInBounds_toArray, List.set_cons_zero, List.set_cons_succ]))
      (refine wpMix_take (i := 3) (v := ?_) rfl (by kernel_rfl) (fun _ _ _ h => h) (Or.inl ⟨by rfl, ?_⟩) hS0 ?_; rotate_left 1; (focus (intro w hSw; (try dsimp only at hSw); go_simp; try (with_reducible rfl))); (try simp only [Act.put, List.setIfInBounds_toArray, List.set_cons_zero, List.set_cons_succ]))
      (refine wpMix_take (i := 4) (v := ?_) rfl (by kernel_rfl) (fun _ _ _ h => h) (Or.inl ⟨by rfl, ?_⟩) hS0 ?_; rotate_left 1; (focus (intro w hSw; (try dsimp only at hSw); go_simp; try (with_reducible rfl))); (try simp only [Act.put, List.setIfInBounds_toArray, List.set_cons_zero, List.set_cons_succ]))
      (refine wpMix_take (i := 5) (v := ?_) rfl (by kernel_rfl) (fun _ _ _ h => h) (Or.inl ⟨by rfl, ?_⟩) hS0 ?_; rotate_left 1; (focus (intro w hSw; (try dsimp only at hSw); go_simp; try (with_reducible rfl))); (try simp only [Act.put, List.setIfInBounds_toArray, List.set_cons_zero, List.set_cons_succ]))
      (refine wpMix_take (i := 6) (v := ?_) rfl (by kernel_rfl) (fun _ _ _ h => h) (Or.inl ⟨by rfl, ?_⟩) hS0 ?_; rotate_left 1; (focus (intro w hSw; (try dsimp only at hSw); go_simp; try (with_reducible rfl))); (try simp only [Act.put, List.setIfInBounds_toArray, List.set_cons_zero, List.set_cons_succ]))
      (refine wpMix_take (i := 7) (v := ?_) rfl (by kernel_rfl) (fun _ _ _ h => h) (Or.inl ⟨by rfl, ?_⟩) hS0 ?_; rotate_left 1; (focus (intro w hSw; (try dsimp only at hSw); go_simp; try (with_reducible rfl))); (try simp only [Act.put, List.setIfInBounds_toArray, List.set_cons_zero, List.set_cons_succ]))
      (refine wpMix_take (i := 8) (v := ?_) rfl (by kernel_rfl) (fun _ _ _ h => h) (Or.inl ⟨by rfl, ?_⟩) hS0 ?_; rotate_left 1; (focus (intro w hSw; (try dsimp only at hSw); go_simp; try (with_reducible rfl))); (try simp only [Act.put, List.setIfInBounds_toArray, List.set_cons_zero, List.set_cons_succ]))
      (refine wpMix_take (i := 9) (v := ?_) rfl (by kernel_rfl) (fun _ _ _ h => h) (Or.inl ⟨by rfl, ?_⟩) hS0 ?_; rotate_left 1; (focus (intro w hSw; (try dsimp only at hSw); go_simp; try (with_reducible rfl))); (try simp only [Act.put, List.setIfInBounds_toArray, List.set_cons_zero, List.set_cons_succ]))
      (refine wpMix_take (i := 10) (v := ?_) rfl (by kernel_rfl) (fun _ _ _ h => h) (Or.inl ⟨by rfl, ?_⟩) hS0 ?_; rotate_left 1; (focus (intro w hSw; (try dsimp only at hSw); go_simp; try (with_reducible rfl))); (try simp only [Act.put, List.setIfInBounds_toArray, List.set_cons_zero, List.set_cons_succ]))
      (refine wpMix_take (i := 11) (v := ?_) rfl (by kernel_rfl) (fun _ _ _ h => h) (Or.inl ⟨by rfl, ?_⟩) hS0 ?_; rotate_left 1; (focus (intro w hSw; (try dsimp only at hSw); go_simp; try (with_reducible rfl))); (try simp only [Act.put, List.setIfInBounds_toArray, List.set_cons_zero, List.set_cons_succ]))
      (refine wpMix_take (i := 12) (v := ?_) rfl (by kernel_rfl) (fun _ _ _ h => h) (Or.inl ⟨by rfl, ?_⟩) hS0 ?_; rotate_left 1; (focus (intro w hSw; (try dsimp only at hSw); go_simp; try (with_reducible rfl))); (try simp only [Act.put, List.setIfInBounds_toArray, List.set_cons_zero, List.set_cons_succ]))
      refine wpMix_next (t := 13) (by kernel_rfl) ?_
      simp only [opsAt, List.flatMap_cons, List.flatMap_nil, List.take_succ_cons, List.take_zero, List.drop_succ_cons, List.drop_zero, List.append_nil, List.cons_append, List.nil_append]
      go_wp2
      refine ⟨⟨cell_new (w := W6) n5 _, cell_new (w := W6) c5 _, cell_new (w := W6) d5 _, cell_new (w := W6) x1 _, cell_new (w := W6) x3 _⟩, ?_⟩
      refine wpMix_rest [14, 15, 16] (by kernel_rfl) ?_
      simp only [opsAt, List.flatMap_cons, List.flatMap_nil, List.take_succ_cons, List.take_zero, List.drop_succ_cons, List.drop_zero, List.append_nil, List.cons_append, List.nil_append]
      have HAT5 := hid (HAM.out.step (((Below.refl _ _).new (.cells #[.int .i64 (max g1 g2)] 2)).drew))
      clear hS0 n5 c5 d5 x1 x3
      go_wp2_with (at_builtin; go_loud (refine wpList_append_sl _ rfl _ _ 26 rfl (B5 + 1) 2 ii (.int .i64 0) 1 8 Try.underlying26 hii hiz0 hiz1 hiz2 rfl (by decide) (.slice va5 k vc5) k _ rfl HAT5.out.x (.slice (some ⟨W6.heap.size, 0, none⟩) 1 1) 1 [.int .i64 (max g1 g2)] rfl ((SlAt.new W6 #[.int .i64 (max g1 g2)] 2).drew) (by simp [Value.oneCell']) (by unfold maxLen; omega) (by omega) (by have := HLT.out; simp; omega) ?_); intro v1 w5 hown5 hg5 hb5; have hblk5 := own_blk HAT5.out.x hg5 (by omega) HAT5.out.blk; have e3 : w5.cell? ⟨B5, 5, none⟩ = some (.slice va5 k vc5) := (six_at hblk5).2.2.2.2.2; have e4 : w5.frozen? ⟨B5, 5, none⟩ = false := blk_free hblk5; have hatS := HAT5.out.addX hg5 hb5 (by rw [HSN5.out, List.map_append]; simpa using hown5); obtain ⟨pa5, pc5, hv1⟩ := row_shape hown5; subst hv1; have HAX := hid hatS; clear hatS hown5 hg5 hb5 hblk5)
      obtain ⟨W7, hW5⟩ : ∃ W, w5.setCell ⟨B5, 5, none⟩ (.slice pa5 (k + 1) pc5) = W := ⟨_, rfl⟩
      rw [hW5] at HAX ⊢
      clear hW5 e3 e4
      go_roundw
      case rel =>
        exact ⟨k + 1, _, _, _, hlt, by go_num, HAX.out⟩
      case measure => simp [intOf]; omega
    · obtain rfl : k = m := by omega
      obtain ⟨r0, r1, r2, r3, r4, r5⟩ := six_at hat.res
      obtain ⟨t0, t1, t2, t3, t4, t5⟩ := six_free hat.res
      obtain ⟨n0, n1, n2, n3, n4, n5⟩ := six_at hat.blk
      dsimp only at n1
      obtain ⟨y1, y2, rfl⟩ := row_shape hat.s
      obtain ⟨y3, y4, rfl⟩ := row_shape hat.m
      obtain ⟨y5, y6, rfl⟩ := row_shape hat.x
      have z4 := blk_lt hat.res
      have zlt := HAT.out.lt.2.2.2
      clear hat i1 i2 i3 j1 j2 j3
      go_wp2
      ((show bodyPost _ _ _ _ _ _); refine bodyPost_ret (by simp only [results, Try.results88]; go_simp; try rfl) rfl ?_)
      have hat := HAT.out
      have ht : TurnO [B4] wr _ := ((((((TurnO.refl [B4] wr).setCell (b := B4) (o := 0) (s := none) (.inl (by simp)) (.int .i64 a.t)).setCell (b := B4) (o := 1) (s := none) (.inl (by simp)) (.slice A1 a.l.length C1)).setCell (b := B4) (o := 2) (s := none) (.inl (by simp)) (.int .i64 (a.n + b.n))).setCell (b := B4) (o := 3) (s := none) (.inl (by simp)) (.slice y1 k y2)).setCell (b := B4) (o := 4) (s := none) (.inl (by simp)) (.slice y3 k y4)).setCell (b := B4) (o := 5) (s := none) (.inl (by simp)) (.slice y5 k y6)
      have far : ∀ {e : TypeId} {size : Nat} {v : Value} {n : Nat} {xs : List Value}, wr.ownsRow (B5 + 1) e size v n xs → _ := fun {e size v n xs} hx => (ht.row hx (fun g hg hgb => by
        have h1 := (hx.lt g hg).1
        have h2 : g = B4 := by simpa using hgb
        have h3 := hat.lt
        omega)).base_le (b' := w.heap.size) (by have h3 := hat.lt; omega)
      obtain ⟨i1, i2, i3⟩ := HLA.out
      obtain ⟨j1, j2, j3⟩ := HLB.out
      have e1 : (bothC a b).sums.length = k := by simp [bothC]; omega
      have e2 : (bothC a b).mins.length = k := by simp [bothC]; omega
      have e3 : (bothC a b).maxs.length = k := by simp [bothC]; omega
      refine ⟨?_, _, _, _, rfl, ?_, ?_, ?_⟩
      · have h := hat.below
        have h3 := hat.lt
        exact ht.below (B := w.heap.size) (by have := h.size; omega) (by simp; omega) |> fun h2 => h.trans h2
      · rw [e1]
        have := far hat.s
        rwa [List.take_of_length_le (by show (bothC a b).sums.length ≤ k; omega)] at this
      · rw [e2]
        have := far hat.m
        rwa [List.take_of_length_le (by show (bothC a b).mins.length ≤ k; omega)] at this
      · rw [e3]
        have := far hat.x
        rwa [List.take_of_length_le (by show (bothC a b).maxs.length ≤ k; omega)] at this
end Go.Proofs.Ytdgeinipdphoeaa
/- Rollup: the walk of the reference's 'put'. -/
namespace Go.Proofs.Ytdgeinipdphoeaa
set_option linter.unusedVariables false
set_option linter.unusedSimpArgs false
set_option maxRecDepth 100000
open Go.ChangeShapes Go.WideShapes Go.ChangeAt Go.RowKit

theorem posC_true : ∀ {l : List CellD} {d : CellD} {k : Nat} (hk : k < posC l d) (hl : k < l.length), aheadC l[k] d = true
  | [], _, _, _, h => absurd h (Nat.not_lt_zero _)
  | x :: l, d, k, hk, h => by
    cases hx : aheadC x d with
    | false =>
      have hp : posC (x :: l) d = 0 := by unfold posC; rw [List.takeWhile_cons, hx]; rfl
      omega
    | true =>
      have hp : posC (x :: l) d = posC l d + 1 := by unfold posC; rw [List.takeWhile_cons, hx]; rfl
      cases k with
      | zero => exact hx
      | succ k => exact posC_true (l := l) (d := d) (k := k) (by omega) (by simpa using h)
theorem posC_false : ∀ {l : List CellD} {d : CellD} (h : posC l d < l.length), aheadC l[posC l d] d = false
  | [], _, h => absurd h (Nat.not_lt_zero _)
  | x :: l, d, h => by
    cases hx : aheadC x d with
    | true =>
      have hp : posC (x :: l) d = posC l d + 1 := by unfold posC; rw [List.takeWhile_cons, hx]; rfl
      simp only [hp, List.getElem_cons_succ]
      exact posC_false (by rw [hp] at h; simpa using h)
    | false =>
      have hp : posC (x :: l) d = 0 := by unfold posC; rw [List.takeWhile_cons, hx]; rfl
      simp only [hp, List.getElem_cons_zero]
      exact hx
def RefPutPost (w : World) (l : List CellD) (e : Ending) (w' : World) : Prop := ∃ v, e = .returned v ∧ CellsSl w' v l ∧ Below w.heap.size w w'
def SizeC (c : CellD) : Prop := ∀ x ∈ c.l, x.s.size ≤ 9223372036854775807
set_option maxHeartbeats 8000000 in
theorem refPut_any (m : Nat) (l : List CellD) (d : CellD) (v : Value) (ud : CellV) (w : World) (hv : CellsSl w v l) (hd : CellIs w (ud.row d) d) (hl : l.length ≤ 1000000) (hm : m ≤ 1000000) (sl : ∀ c ∈ l, SizeC c) (sd : SizeC d)
    (ll : ∀ c ∈ l, c.sums.length = m ∧ c.mins.length = m ∧ c.maxs.length = m) (ld : d.sums.length = m ∧ d.mins.length = m ∧ d.maxs.length = m) (hn : ∀ c ∈ l, wrap64 (c.n + d.n) = c.n + d.n) :
    Calls Try.prog 58 #[v, .agg #[.int .i64 d.t, ud.vl, .int .i64 d.n, ud.vs, ud.vm, ud.vx]] w (RefPutPost w (put1 m l d)) := by
  obtain ⟨ic, hi, hiz0, hiz1, hiz2⟩ := info_parts info_cell
  obtain ⟨ul, us, um, ux⟩ := ud
  obtain ⟨_, _, _, _, e, a1, a2, a3, a4⟩ := hd
  simp only [CellV.row, List.cons.injEq, and_true, true_and] at e
  obtain ⟨rfl, rfl, rfl, rfl⟩ := e
  obtain ⟨A1, C1, rfl, _⟩ := SlAt.shape a1
  obtain ⟨A2, C2, rfl, _⟩ := SlAt.shape a2
  obtain ⟨A3, C3, rfl, _⟩ := SlAt.shape a3
  obtain ⟨A4, C4, rfl, _⟩ := SlAt.shape a4
  obtain ⟨ao, cap, rfl, hcp, hcm, _⟩ := hv.shape
  have HV := hid hv; have HD := hid (And.intro a1 (And.intro a2 (And.intro a3 a4)))
  have HSL := hid sl; have HSD := hid sd; have HLL := hid ll; have HLD := hid ld; have HN := hid hn
  obtain ⟨P, hP⟩ : ∃ P, posC l d = P := ⟨_, rfl⟩
  have HPE := hid hP
  have hPl : P ≤ l.length := by rw [← hP]; exact posC_le l d
  clear hv a1 a2 a3 a4 sl sd ll ld hn hP
  go_enter Try.func58, Try.ntmps58
  go_wp2
  go_loopw [5] (fun i wr => ∃ k : Nat, k ≤ P ∧ i = .int .i64 (k : Nat) ∧ wr.heap[w.heap.size]? = some (.cells #[.int .i64 d.t, .slice A1 d.l.length C1, .int .i64 d.n, .slice A2 d.sums.length C2, .slice A3 d.mins.length C3, .slice A4 d.maxs.length C4] 46 (0, 0)) ∧ Below w.heap.size w wr) (fun i _ => P - (intOf i).toNat)
  case atStart => exact ⟨0, Nat.zero_le _, rfl, heap_at rfl, by (repeat' (first | (with_reducible exact Below.refl _ _) | (with_reducible assumption) | (with_reducible refine Below.new ?_ _) | (with_reducible refine Below.alloc ?_ ?_ _) | (with_reducible refine Below.drew ?_) | (with_reducible refine Below.drewN ?_ _) | (with_reducible refine Below.setCell ?_ ?_ _) | (refine Below.step ?_ (by assumption)) | go_size))⟩
  case round =>
    obtain ⟨k, hk, rfl, hbk, hbel⟩ := hrel
    have hk0 : (0 : Int) ≤ (k : Int) := Int.natCast_nonneg _
    have hk6 : (k : Int) ≤ 1000000 := by omega
    obtain ⟨d0, d1, d2, d3, d4, d5⟩ := six_at hbk
    have HBK := hid hbk; have HB := hid hbel
    have hwz := hbel.size
    have hzb := blk_lt hbk
    go_wp2_with fail
    go_upto_region 2 with fail
    go_cut [18] (fun s wx => s = .bool (decide (k < P)) ∧ Below wr.heap.size wr wx)
    case first =>
      by_cases hkl : k < l.length
      · have hkl' : (k : Int) < (l.length : Int) := by omega
        obtain ⟨b, off, vl, vs, vm, vx, rfl, g1, g2, g3, g4, c0, c1, c2, c3, c4, c5⟩ := HV.out.at hkl
        have HI := hid (fun x => refAheadC_any l[k] d vl vs vm vx (.slice A1 d.l.length C1) (.slice A2 d.sums.length C2) (.slice A3 d.mins.length C3) (.slice A4 d.maxs.length C4) l[k].n d.n (World.plus wr x) (g1.below (hbel.step (World.plus_below wr x))) (HD.out.1.below (hbel.step (World.plus_below wr x))) (HSL.out _ (List.getElem_mem hkl)) HSD.out (g2.shape.imp fun _ h => ⟨_, h.imp fun _ h => h.1⟩) (g3.shape.imp fun _ h => ⟨_, h.imp fun _ h => h.1⟩) (g4.shape.imp fun _ h => ⟨_, h.imp fun _ h => h.1⟩) ⟨_, _, _, rfl⟩ ⟨_, _, _, rfl⟩ ⟨_, _, _, rfl⟩)
        have hah : aheadC l[k] d = decide (k < P) := by
          by_cases h : k < P
          · rw [posC_true (by rw [HPE.out]; exact h) hkl]; simp [h]
          · obtain rfl : k = P := by omega
            have e := HPE.out
            subst e
            rw [posC_false hkl]; simp
        rw [hah] at HI
        replace c0 := cell_step c0 hbel; replace c1 := cell_step c1 hbel; replace c2 := cell_step c2 hbel; replace c3 := cell_step c3 hbel; replace c4 := cell_step c4 hbel; replace c5 := cell_step c5 hbel
        obtain ⟨_, _, rfl, _⟩ := SlAt.shape g1
        obtain ⟨_, _, rfl, _⟩ := SlAt.shape g2
        obtain ⟨_, _, rfl, _⟩ := SlAt.shape g3
        obtain ⟨_, _, rfl, _⟩ := SlAt.shape g4
        have pc0 := World.plus_cell c0; have pc1 := World.plus_cell c1; have pc2 := World.plus_cell c2; have pc3 := World.plus_cell c3; have pc4 := World.plus_cell c4; have pc5 := World.plus_cell c5
        have pd0 := World.plus_cell d0; have pd1 := World.plus_cell d1; have pd2 := World.plus_cell d2; have pd3 := World.plus_cell d3; have pd4 := World.plus_cell d4; have pd5 := World.plus_cell d5
        obtain ⟨R, hR⟩ : ∃ R, decide (k < P) = R := ⟨_, rfl⟩
        rw [hR] at HI
        have HRR := hid hR
        clear g1 g2 g3 g4 hah hbk hbel hR
        generalize l[k].t = t1 at *
        generalize l[k].n = n1 at *
        generalize l[k].l.length = m1 at *
        generalize l[k].sums.length = m2 at *
        generalize l[k].mins.length = m3 at *
        generalize l[k].maxs.length = m4 at *
        refine wp_region_plus (by kernel_rfl) (by kernel_rfl) ?_
        repeat (first | go_big_quiet_skip | (go_big_quiet_want; go_big_quiet_op; first | go_big_quiet_on | go_big_quiet_call (((go_at_call 75; exact Calls.plus_of (HI.out _))))))
        refine wpQuiet_nil ?_
        rintro _ ⟨xq, rfl⟩
        have kB := World.plus_below wr xq
        go_wp2_with fail
        go_meet
        exact ⟨by rw [HRR.out], kB⟩
      · have hkl' : decide ((k : Int) < (l.length : Int)) = false := by simp; omega
        have hkl2 : decide (k < l.length) = false := by simp; omega
        have HRR := hid (show decide (k < P) = false by simp; omega)
        clear hkl hbk hbel
        refine wp_region_plus (by kernel_rfl) (by kernel_rfl) ?_
        repeat (first | go_big_quiet_skip | (go_big_quiet_want; go_big_quiet_op; first | go_big_quiet_on | go_big_quiet_call ((fail))))
        refine wpQuiet_nil ?_
        rintro _ ⟨xq, rfl⟩
        have kB := World.plus_below wr xq
        go_wp2_with fail
        go_meet
        exact ⟨by rw [HRR.out], kB⟩
    case rest =>
      obtain ⟨rfl, hbc⟩ := hcut
      have HBC := hid hbc
      clear hbc hbk hbel d0 d1 d2 d3 d4 d5
      obtain ⟨W1, rfl⟩ : ∃ W, W = wc := ⟨_, rfl⟩
      by_cases hkp : k < P
      · have hdk : decide (k < P) = true := by simpa using hkp
        rw [hdk]
        clear hdk
        go_wp2
        go_roundw
        case rel => exact ⟨k + 1, hkp, by go_num, blk_below HBK.out HBC.out, HB.out.step HBC.out⟩
        case measure => simp [intOf]; omega
      · obtain rfl : k = P := by omega
        have hdk : decide (k < k) = false := by simp
        rw [hdk]
        clear hdk
        have hW1 := HB.out.step HBC.out
        have hbk1 := blk_below HBK.out HBC.out
        obtain ⟨ps, hps, hsl, hheld⟩ := (HV.out.below hW1).pairs
        have hpn : ps.length = l.length := by rw [← hps]; simp [cellsP]
        rw [hpn] at hsl
        have hst := hsl.take hPl
        have h1c : ∀ u ∈ ps.flatMap rowP, u.oneCell' = true := fun u hu => by
          obtain ⟨q, hq, hu⟩ := List.mem_flatMap.1 hu
          exact (hheld q hq).one (Below.refl _ _) u hu
        have HPS := hid hps; have HSLP := hid hsl; have HST := hid hst; have HH := hid hheld; have H1C := hid h1c; have HW1 := hid hW1; have HBK1 := hid hbk1; have HPN := hid hpn
        clear hps hsl hst hheld h1c hW1 hbk1 hpn HBK HB HBC
        go_wp2_with (at_builtin; go_loud (refine wpList_append_sl _ rfl _ _ 40 rfl W1.heap.size 46 ic _ 6 112 Try.underlying40 hi hiz0 hiz1 hiz2 rfl (by decide) (.slice none 0 0) 0 [] rfl (World.ownsRow_nil _ _ _ _) (.slice ao k cap) k _ rfl HST.out (fun u hu => H1C.out u (List.mem_of_mem_take hu)) (by unfold maxLen; omega) (by omega) (Nat.le_refl _) ?_); intro v1 w2 hown2 hg2 hb2; rw [Nat.zero_add] at hown2; obtain ⟨o1, o2, e1⟩ := row_shape hown2; subst e1; have HO2 := hid (And.intro hown2 hg2); clear hown2 hg2 hb2)
        have HK2 : Hid (OwnKs W1 w2 (.slice o1 k o2) (ps.take k)) := by
          have h := (OwnKs.nil (Below.refl W1.heap.size W1)).push (qs := ps.take k) (n' := k) (v' := .slice o1 k o2) (fun p hp => HH.out p (List.mem_of_mem_take hp)) HO2.out.2 (by
            have h1 := HO2.out.1
            rw [flat_take 6 rowP rowP_len] at h1
            exact h1) (by have := HPN.out; simp; omega)
          exact h
        have hbk2 := blk_below HBK1.out HK2.out.below
        obtain ⟨d0, d1, d2, d3, d4, d5⟩ := six_at hbk2
        have HBK2 := hid hbk2
        have hcase : mergeB l d k = true ∨ mergeB l d k = false := by cases mergeB l d k <;> simp
        have zW2 := HK2.out.below.size
        clear hbk2 HO2
        go_upto_region 6 with fail
        go_cut [38] (fun s wx => s = .bool (mergeB l d k) ∧ Below w2.heap.size w2 wx)
        case first =>
          by_cases hkl : k < l.length
          · have hkl' : (k : Int) < (l.length : Int) := by omega
            have hME : mergeB l d k = !aheadC d l[k] := by unfold mergeB; rw [dif_pos hkl]
            obtain ⟨b, off, vl, vs, vm, vx, rfl, g1, g2, g3, g4, c0, c1, c2, c3, c4, c5⟩ := HV.out.at hkl
            have hb2 : Below w.heap.size w w2 := HW1.out.step HK2.out.below
            have HI := hid (fun x => refAheadC_any d l[k] (.slice A1 d.l.length C1) (.slice A2 d.sums.length C2) (.slice A3 d.mins.length C3) (.slice A4 d.maxs.length C4) vl vs vm vx d.n l[k].n (World.plus w2 x) (HD.out.1.below (hb2.step (World.plus_below w2 x))) (g1.below (hb2.step (World.plus_below w2 x))) HSD.out (HSL.out _ (List.getElem_mem hkl)) ⟨_, _, _, rfl⟩ ⟨_, _, _, rfl⟩ ⟨_, _, _, rfl⟩ (g2.shape.imp fun _ h => ⟨_, h.imp fun _ h => h.1⟩) (g3.shape.imp fun _ h => ⟨_, h.imp fun _ h => h.1⟩) (g4.shape.imp fun _ h => ⟨_, h.imp fun _ h => h.1⟩))
            have HME := hid hME
            replace c0 := cell_step c0 hb2; replace c1 := cell_step c1 hb2; replace c2 := cell_step c2 hb2; replace c3 := cell_step c3 hb2; replace c4 := cell_step c4 hb2; replace c5 := cell_step c5 hb2
            obtain ⟨_, _, rfl, _⟩ := SlAt.shape g1
            obtain ⟨_, _, rfl, _⟩ := SlAt.shape g2
            obtain ⟨_, _, rfl, _⟩ := SlAt.shape g3
            obtain ⟨_, _, rfl, _⟩ := SlAt.shape g4
            have pc0 := World.plus_cell c0; have pc1 := World.plus_cell c1; have pc2 := World.plus_cell c2; have pc3 := World.plus_cell c3; have pc4 := World.plus_cell c4; have pc5 := World.plus_cell c5
            have pd0 := World.plus_cell d0; have pd1 := World.plus_cell d1; have pd2 := World.plus_cell d2; have pd3 := World.plus_cell d3; have pd4 := World.plus_cell d4; have pd5 := World.plus_cell d5
            clear g1 g2 g3 g4 hME hcase hb2
            generalize aheadC d l[k] = r at *
            generalize l[k].t = t1 at *
            generalize l[k].n = n1 at *
            generalize l[k].l.length = m1 at *
            generalize l[k].sums.length = m2 at *
            generalize l[k].mins.length = m3 at *
            generalize l[k].maxs.length = m4 at *
            refine wp_region_plus (by kernel_rfl) (by kernel_rfl) ?_
            repeat (first | go_big_quiet_skip | (go_big_quiet_want; go_big_quiet_op; first | go_big_quiet_on | go_big_quiet_call (((go_at_call 75; exact Calls.plus_of (HI.out _))))))
            refine wpQuiet_nil ?_
            rintro _ ⟨xq, rfl⟩
            have kB := World.plus_below w2 xq
            go_wp2_with fail
            go_meet
            exact ⟨by rw [HME.out], kB⟩
          · have hkl' : decide ((k : Int) < (l.length : Int)) = false := by simp; omega
            have hkl2 : decide (k < l.length) = false := by simp; omega
            have HME := hid (show mergeB l d k = false by unfold mergeB; rw [dif_neg hkl])
            clear hkl hcase
            refine wp_region_plus (by kernel_rfl) (by kernel_rfl) ?_
            repeat (first | go_big_quiet_skip | (go_big_quiet_want; go_big_quiet_op; first | go_big_quiet_on | go_big_quiet_call ((fail))))
            refine wpQuiet_nil ?_
            rintro _ ⟨xq, rfl⟩
            have kB := World.plus_below w2 xq
            go_wp2_with fail
            go_meet
            exact ⟨by rw [HME.out], kB⟩
        case rest =>
          obtain ⟨rfl, hbc⟩ := hcut
          have HK3 := hid (HK2.out.step hbc)
          have hbk3 := blk_below HBK2.out hbc
          have HBK3 := hid hbk3
          have zW3 := hbc.size
          clear d0 d1 d2 d3 d4 d5
          obtain ⟨d0, d1, d2, d3, d4, d5⟩ := six_at hbk3
          clear hbc hbk3 HK2 HBK2
          obtain ⟨W3, rfl⟩ : ∃ W, W = wc := ⟨_, rfl⟩
          have hln : (ps.take k).length = k := by have := HPN.out; simp; omega
          have HR3 : Hid (W3.ownsRow W1.heap.size 46 6 (.slice o1 k o2) k ((ps.take k).flatMap rowP)) := by
            have := HK3.out.row
            rw [hln] at this
            exact this
          have zb1 : w.heap.size < W1.heap.size := blk_lt HBK1.out
          have zW13 : W1.heap.size ≤ W3.heap.size := HK3.out.below.size
          have hao : 0 < l.length → ∀ a, ao = some a → a.spot = none := fun h0 a ha => by
            obtain ⟨b, off, _, _, _, _, e, _⟩ := HV.out.at h0
            rw [ha] at e
            cases e
            rfl
          have HAO := hid hao
          have HUD : Hid (HeldC W1 W1 ⟨.slice A1 d.l.length C1, .slice A2 d.sums.length C2, .slice A3 d.mins.length C3, .slice A4 d.maxs.length C4⟩ d) := ⟨.inl (HD.out.1.below HW1.out), .inl (HD.out.2.1.below HW1.out), .inl (HD.out.2.2.1.below HW1.out), .inl (HD.out.2.2.2.below HW1.out)⟩
          clear hln hao
          rcases hcase with hme | hme
          · rw [hme]
            obtain ⟨hpl, hnah⟩ : ∃ h : k < l.length, aheadC d l[k] = false := by
              unfold mergeB at hme
              split at hme
              · rename_i h
                exact ⟨h, by simpa using hme⟩
              · cases hme
            have hps : k < ps.length := by rw [HPN.out]; exact hpl
            obtain ⟨c, hcl⟩ : ∃ c, l[k] = c := ⟨_, rfl⟩
            have hcmem : c ∈ l := by rw [← hcl]; exact List.getElem_mem hpl
            have HPUT : Hid (∀ u : CellV, put1 m l d = cellsP ((ps.take k ++ [(u, bothC c d)]) ++ ps.drop (k + 1))) := fun u => by
              have e := HPE.out
              subst e
              show put1 m l d = _
              rw [put_same m l d hpl hnah, hcl, List.set_eq_take_append_cons_drop, if_pos hpl, ← HPS.out]
              simp [cellsP, List.map_take, List.map_drop]
            have hvv := HV.out
            obtain ⟨b, off, vl, vs, vm, vx, rfl, g1, g2, g3, g4, c0, c1, c2, c3, c4, c5⟩ := hvv.at hpl
            rw [hcl] at g1 g2 g3 g4 c0 c2
            have hb13 : Below w.heap.size w W3 := HW1.out.step HK3.out.below
            have hbw : b < w.heap.size := World.block_lt_of_cell? _ _ c0
            replace c0 := cell_step c0 hb13; replace c1 := cell_step c1 hb13; replace c2 := cell_step c2 hb13; replace c3 := cell_step c3 hb13; replace c4 := cell_step c4 hb13; replace c5 := cell_step c5 hb13
            have HCI := hid (show CellIs w ((⟨vl, vs, vm, vx⟩ : CellV).row c) c from ⟨_, _, _, _, rfl, g1, g2, g3, g4⟩)
            have HC1 := hid g1
            have HDI := hid (show CellIs w ((⟨.slice A1 d.l.length C1, .slice A2 d.sums.length C2, .slice A3 d.mins.length C3, .slice A4 d.maxs.length C4⟩ : CellV).row d) d from ⟨_, _, _, _, rfl, HD.out.1, HD.out.2.1, HD.out.2.2.1, HD.out.2.2.2⟩)
            have HBO := hid (fun W (h : Below w.heap.size w W) => refBoth_any m c d ⟨vl, vs, vm, vx⟩ ⟨.slice A1 d.l.length C1, .slice A2 d.sums.length C2, .slice A3 d.mins.length C3, .slice A4 d.maxs.length C4⟩ W (HCI.out.below h) (HDI.out.below h) (HLL.out c hcmem) HLD.out hm (HN.out c hcmem))
            obtain ⟨B1, F1, rfl, _⟩ := SlAt.shape g1
            obtain ⟨B2, F2, rfl, _⟩ := SlAt.shape g2
            obtain ⟨B3, F3, rfl, _⟩ := SlAt.shape g3
            obtain ⟨B4, F4, rfl, _⟩ := SlAt.shape g4
            have hq1 : (k : Int) < (l.length : Int) := by omega
            have hk1 : k + 1 ≤ l.length := hpl
            obtain ⟨XS, hXS⟩ : ∃ XS, (if cap = k + 1 then some (⟨b, off, none⟩ : Addr) else some ⟨b, off + (k + 1) * 6, none⟩) = XS := ⟨_, rfl⟩
            have HXS := hid hXS
            have hq2 : (k : Int) + 1 ≤ (l.length : Int) := by omega
            have hq3 : (0 : Int) ≤ (k : Int) + 1 := by omega
            have hw1 : IntKind.i64.wrap ((k : Int) + 1) = (k : Int) + 1 := IntWalk.i64_in _ (by omega)
            have ht1 : ((k : Int) + 1).toNat = k + 1 := by omega
            have hB3 := hid hb13
            clear hme hnah hps hcl hcmem hvv g1 g2 g3 g4 hb13
            go_wp2
            have hS0 : (fun w' : World => (w'.cell? ⟨w.heap.size, 0, none⟩ = some (.int .i64 d.t) ∧ w'.cell? ⟨w.heap.size, 1, none⟩ = some (.slice A1 d.l.length C1) ∧ w'.cell? ⟨w.heap.size, 2, none⟩ = some (.int .i64 d.n) ∧ w'.cell? ⟨w.heap.size, 3, none⟩ = some (.slice A2 d.sums.length C2) ∧ w'.cell? ⟨w.heap.size, 4, none⟩ = some (.slice A3 d.mins.length C3) ∧ w'.cell? ⟨w.heap.size, 5, none⟩ = some (.slice A4 d.maxs.length C4)) ∧ w'.cell? ⟨b, off + k * 6, none⟩ = some (.int .i64 c.t) ∧ w'.cell? ⟨b, off + k * 6 + 1, none⟩ = some (.slice B1 c.l.length F1) ∧ w'.cell? ⟨b, off + k * 6 + 2, none⟩ = some (.int .i64 c.n) ∧ w'.cell? ⟨b, off + k * 6 + 3, none⟩ = some (.slice B2 c.sums.length F2) ∧ w'.cell? ⟨b, off + k * 6 + 4, none⟩ = some (.slice B3 c.mins.length F3) ∧ w'.cell? ⟨b, off + k * 6 + 5, none⟩ = some (.slice B4 c.maxs.length F4)) W3.drew := ⟨⟨d0, d1, d2, d3, d4, d5⟩, c0, c1, c2, c3, c4, c5⟩
            refine wp_region_some (fun w' : World => (w'.cell? ⟨w.heap.size, 0, none⟩ = some (.int .i64 d.t) ∧ w'.cell? ⟨w.heap.size, 1, none⟩ = some (.slice A1 d.l.length C1) ∧ w'.cell? ⟨w.heap.size, 2, none⟩ = some (.int .i64 d.n) ∧ w'.cell? ⟨w.heap.size, 3, none⟩ = some (.slice A2 d.sums.length C2) ∧ w'.cell? ⟨w.heap.size, 4, none⟩ = some (.slice A3 d.mins.length C3) ∧ w'.cell? ⟨w.heap.size, 5, none⟩ = some (.slice A4 d.maxs.length C4)) ∧ w'.cell? ⟨b, off + k * 6, none⟩ = some (.int .i64 c.t) ∧ w'.cell? ⟨b, off + k * 6 + 1, none⟩ = some (.slice B1 c.l.length F1) ∧ w'.cell? ⟨b, off + k * 6 + 2, none⟩ = some (.int .i64 c.n) ∧ w'.cell? ⟨b, off + k * 6 + 3, none⟩ = some (.slice B2 c.sums.length F2) ∧ w'.cell? ⟨b, off + k * 6 + 4, none⟩ = some (.slice B3 c.mins.length F3) ∧ w'.cell? ⟨b, off + k * 6 + 5, none⟩ = some (.slice B4 c.maxs.length F4)) [13, 14] (by kernel_rfl) ?_
            (refine wpMix_take (i := 0) (v := ?_) rfl (by kernel_rfl) (fun _ _ _ h => h) (Or.inl ⟨by rfl, ?_⟩) hS0 ?_; rotate_left 1; (focus (intro w hSw; (try dsimp only at hSw); go_simp; try (with_reducible rfl))); (try simp only [Act.put, List.setIfInBounds_toArray, List.set_cons_zero, List.set_cons_succ]))
            (refine wpMix_take (i := 1) (v := ?_) rfl (by kernel_rfl) (fun _ _ _ h => h) (Or.inl ⟨by rfl, ?_⟩) hS0 ?_; rotate_left 1; (focus (intro w hSw; (try dsimp only at hSw); go_simp; try (with_reducible rfl))); (try simp only [Act.put, List.setIfInBounds_toArray, List.set_cons_zero, List.set_cons_succ]))
            (refine wpMix_take (i := 2) (v := ?_) rfl (by kernel_rfl) (fun _ _ _ h => h) (Or.inl ⟨by rfl, ?_⟩) hS0 ?_; rotate_left 1; (focus (intro w hSw; (try dsimp only at hSw); go_simp; try (with_reducible rfl))); (try simp only [Act.put, List.setIfInBounds_toArray, List.set_cons_zero, List.set_cons_succ]))
            (refine wpMix_take (i := 3) (v := ?_) rfl (by kernel_rfl) (fun _ _ _ h => h) (Or.inl ⟨by rfl, ?_⟩) hS0 ?_; rotate_left 1; (focus (intro w hSw; (try dsimp only at hSw); go_simp; try (with_reducible rfl))); (try simp only [Act.put, List.setIfInBounds_toArray, List.set_cons_zero, List.set_cons_succ]))
            (refine wpMix_take (i := 4) (v := ?_) rfl (by kernel_rfl) (fun _ _ _ h => h) (Or.inl ⟨by rfl, ?_⟩) hS0 ?_; rotate_left 1; (focus (intro w hSw; (try dsimp only at hSw); go_simp; try (with_reducible rfl))); (try simp only [Act.put, List.setIfInBounds_toArray, List.set_cons_zero, List.set_cons_succ]))
            (refine wpMix_take (i := 5) (v := ?_) rfl (by kernel_rfl) (fun _ _ _ h => h) (Or.inl ⟨by rfl, ?_⟩) hS0 ?_; rotate_left 1; (focus (intro w hSw; (try dsimp only at hSw); go_simp; try (with_reducible rfl))); (try simp only [Act.put, List.setIfInBounds_toArray, List.set_cons_zero, List.set_cons_succ]))
            (refine wpMix_take (i := 9) (v := ?_) rfl (by kernel_rfl) (fun _ _ _ h => h) (Or.inl ⟨by rfl, ?_⟩) hS0 ?_; rotate_left 1; (focus (intro w hSw; (try dsimp only at hSw); go_simp; try (with_reducible rfl))); (try simp only [Act.put, List.setIfInBounds_toArray, List.set_cons_zero, List.set_cons_succ]))
            (refine wpMix_take (i := 10) (v := ?_) rfl (by kernel_rfl) (fun _ _ _ h => h) (Or.inl ⟨by rfl, ?_⟩) hS0 ?_; rotate_left 1; (focus (intro w hSw; (try dsimp only at hSw); go_simp; try (with_reducible rfl))); (try simp only [Act.put, List.setIfInBounds_toArray, List.set_cons_zero, List.set_cons_succ]))
            (refine wpMix_take (i := 11) (v := ?_) rfl (by kernel_rfl) (fun _ _ _ h => h) (Or.inl ⟨by rfl, ?_⟩) hS0 ?_; rotate_left 1; (focus (intro w hSw; (try dsimp only at hSw); go_simp; try (with_reducible rfl))); (try simp only [Act.put, List.setIfInBounds_toArray, List.set_cons_zero, List.set_cons_succ]))
            (refine wpMix_take (i := 12) (v := ?_) rfl (by kernel_rfl) (fun _ _ _ h => h) (Or.inl ⟨by rfl, ?_⟩) hS0 ?_; rotate_left 1; (focus (intro w hSw; (try dsimp only at hSw); go_simp; try (with_reducible rfl))); (try simp only [Act.put, List.setIfInBounds_toArray, List.set_cons_zero, List.set_cons_succ]))
            clear hXS hw1 ht1
            refine wpMix_next (t := 6) (by kernel_rfl) ?_
            simp only [opsAt, List.flatMap_cons, List.flatMap_nil, List.take_succ_cons, List.take_zero, List.drop_succ_cons, List.drop_zero, List.append_nil, List.cons_append, List.nil_append]
            go_wp2_with (go_at_call 88; go_loud ((with_reducible refine (HBO.out _ hB3.out.drew).mono ?_); rintro e w4 ⟨hb4, vs, vm, vx, rfl, p1, p2, p3⟩))
            replace hb4 : Below W3.heap.size W3 w4 := (Below.drew (Below.refl _ _)).trans hb4
            have hS1 := And.intro (And.intro (cell_step d0 hb4) (And.intro (cell_step d1 hb4) (And.intro (cell_step d2 hb4) (And.intro (cell_step d3 hb4) (And.intro (cell_step d4 hb4) (cell_step d5 hb4)))))) (And.intro (cell_step c0 hb4) (And.intro (cell_step c1 hb4) (And.intro (cell_step c2 hb4) (And.intro (cell_step c3 hb4) (And.intro (cell_step c4 hb4) (cell_step c5 hb4))))))
            refine ⟨hS1, ?_⟩
            refine wpMix_next (t := 7) (by kernel_rfl) ?_
            simp only [opsAt, List.flatMap_cons, List.flatMap_nil, List.take_succ_cons, List.take_zero, List.drop_succ_cons, List.drop_zero, List.append_nil, List.cons_append, List.nil_append]
            obtain ⟨y1, y2, rfl⟩ := row_shape p1
            obtain ⟨y3, y4, rfl⟩ := row_shape p2
            obtain ⟨y5, y6, rfl⟩ := row_shape p3
            have HP := hid (And.intro p1 (And.intro p2 (And.intro p3 hb4)))
            have hz4 := hb4.size
            clear p1 p2 p3
            generalize (bothC c d).sums.length = n1 at *
            generalize (bothC c d).mins.length = n2 at *
            generalize (bothC c d).maxs.length = n3 at *
            go_wp2
            refine ⟨⟨⟨cell_new (w := w4) hS1.1.1 _, cell_new (w := w4) hS1.1.2.1 _, cell_new (w := w4) hS1.1.2.2.1 _, cell_new (w := w4) hS1.1.2.2.2.1 _, cell_new (w := w4) hS1.1.2.2.2.2.1 _, cell_new (w := w4) hS1.1.2.2.2.2.2 _⟩, cell_new (w := w4) hS1.2.1 _, cell_new (w := w4) hS1.2.2.1 _, cell_new (w := w4) hS1.2.2.2.1 _, cell_new (w := w4) hS1.2.2.2.2.1 _, cell_new (w := w4) hS1.2.2.2.2.2.1 _, cell_new (w := w4) hS1.2.2.2.2.2.2 _⟩, ?_⟩
            refine wpMix_next (t := 8) (by kernel_rfl) ?_
            simp only [opsAt, List.flatMap_cons, List.flatMap_nil, List.take_succ_cons, List.take_zero, List.drop_succ_cons, List.drop_zero, List.append_nil, List.cons_append, List.nil_append]
            have hbb1 : b < W1.heap.size := by have := HW1.out.size; omega
            go_wp2_with (at_builtin; go_loud (refine wpList_append_sl _ rfl _ _ 40 rfl W1.heap.size 46 ic _ 6 112 Try.underlying40 hi hiz0 hiz1 hiz2 rfl (by decide) (.slice o1 k o2) k _ rfl ((row_below HR3.out HP.out.2.2.2).alloc _) (.slice (some ⟨w4.heap.size, 0, none⟩) 1 1) 1 _ rfl (SlAt.new w4 #[.int .i64 c.t, .slice B1 c.l.length F1, .int .i64 (c.n + d.n), .slice y1 n1 y2, .slice y3 n2 y4, .slice y5 n3 y6] 46) (by simp [Value.oneCell']) (by unfold maxLen; omega) (by omega) (by simp; omega) ?_); intro v1 w6 hown6 hg6 hb6)
            have far6 : ∀ {b o : Nat} {x : Value}, b < W1.heap.size → w4.cell? ⟨b, o, none⟩ = some x → w6.cell? ⟨b, o, none⟩ = some x := fun hb hc => own_far ((row_below HR3.out HP.out.2.2.2).alloc _) hg6 hb (cell_new (w := w4) hc _)
            refine ⟨⟨(And.intro (far6 zb1 (hS1.1.1)) (And.intro (far6 zb1 (hS1.1.2.1)) (And.intro (far6 zb1 (hS1.1.2.2.1)) (And.intro (far6 zb1 (hS1.1.2.2.2.1)) (And.intro (far6 zb1 (hS1.1.2.2.2.2.1)) (far6 zb1 (hS1.1.2.2.2.2.2))))))), (And.intro (far6 hbb1 (hS1.2.1)) (And.intro (far6 hbb1 (hS1.2.2.1)) (And.intro (far6 hbb1 (hS1.2.2.2.1)) (And.intro (far6 hbb1 (hS1.2.2.2.2.1)) (And.intro (far6 hbb1 (hS1.2.2.2.2.2.1)) (far6 hbb1 (hS1.2.2.2.2.2.2)))))))⟩, ?_⟩
            have hln2 : ∃ z : n1 = (bothC c d).sums.length ∧ n2 = (bothC c d).mins.length ∧ n3 = (bothC c d).maxs.length, True := by
              have q1 := HP.out.1.1
              have q2 := HP.out.2.1.1
              have q3 := HP.out.2.2.1.1
              rw [flat_len 2 _ wcells_len] at q1
              simp at q2 q3
              exact ⟨⟨by omega, by omega, by omega⟩, trivial⟩
            obtain ⟨⟨z1, z2, z3⟩, _⟩ := hln2
            have hheld : HeldC W1 (w4.alloc (.cells #[.int .i64 c.t, .slice B1 c.l.length F1, .int .i64 (c.n + d.n), .slice y1 n1 y2, .slice y3 n2 y4, .slice y5 n3 y6] 46)) ⟨.slice B1 c.l.length F1, .slice y1 n1 y2, .slice y3 n2 y4, .slice y5 n3 y6⟩ (bothC c d) := by
              refine ⟨.inl (HC1.out.below HW1.out), .inr ?_, .inr ?_, .inr ?_⟩
              · rw [← z1]; exact (HP.out.1.base_le (b' := W1.heap.size) (by simp; omega)).alloc _
              · rw [← z2]; exact (HP.out.2.1.base_le (b' := W1.heap.size) (by simp; omega)).alloc _
              · rw [← z3]; exact (HP.out.2.2.1.base_le (b' := W1.heap.size) (by simp; omega)).alloc _
            have hK6 := ((HK3.out.step HP.out.2.2.2).step ((Below.refl _ _).new (.cells #[.int .i64 c.t, .slice B1 c.l.length F1, .int .i64 (c.n + d.n), .slice y1 n1 y2, .slice y3 n2 y4, .slice y5 n3 y6] 46))).push (qs := [(⟨.slice B1 c.l.length F1, .slice y1 n1 y2, .slice y3 n2 y4, .slice y5 n3 y6⟩, bothC c d)]) (v' := v1) (n' := k + 1) (fun p hp => by
              obtain rfl : p = _ := by simpa using hp
              exact hheld) hg6 (by simpa [rowP, CellV.row, bothC] using hown6) (by have := HPN.out; simp; omega)
            have hsrc := (HSLP.out.from HAO.out (k := k + 1) hk1).below hK6.below
            have hadd : (⟨b, off, none⟩ : Addr).add ((k + 1) * 6) = ⟨b, off + (k + 1) * 6, none⟩ := by unfold Addr.add; split <;> simp_all
            simp only [Option.map_some, hadd] at hsrc
            rw [HXS.out] at hsrc
            refine wpMix_rest [13, 14] (by kernel_rfl) ?_
            simp only [opsAt, List.flatMap_cons, List.flatMap_nil, List.take_succ_cons, List.take_zero, List.drop_succ_cons, List.drop_zero, List.append_nil, List.cons_append, List.nil_append]
            have HK6 := hid hK6; have HO6 := hid hown6
            have z6 := hK6.below.size
            clear hown6 hg6 hb6 far6 hS0 hS1 hK6 d0 d1 d2 d3 d4 d5 c0 c1 c2 c3 c4 c5 hadd z1 z2 z3 hheld hb4
            go_wp2_with (at_builtin; go_loud (refine wpList_append_sl _ rfl _ _ 40 rfl W1.heap.size 46 ic _ 6 112 Try.underlying40 hi hiz0 hiz1 hiz2 rfl (by decide) v1 (k + 1) _ rfl HO6.out (.slice XS (l.length - (k + 1)) (cap - (k + 1))) (l.length - (k + 1)) _ rfl hsrc (fun u hu => H1C.out u (List.mem_of_mem_drop hu)) (by unfold maxLen; omega) (by omega) (by omega) ?_); intro v2 w7 hown7 hg7 hb7; have H7 := hid (And.intro hown7 hg7); clear hown7 hg7 hb7)
            have hK7 := HK6.out.push (qs := ps.drop (k + 1)) (v' := v2) (n' := k + 1 + (l.length - (k + 1))) (fun p hp => (HH.out p (List.mem_of_mem_drop hp)).step HK6.out.below) H7.out.2 (by
              have h7 := H7.out.1
              rw [flat_drop 6 rowP rowP_len] at h7
              simpa [rowP, CellV.row, bothC] using h7) (by have := HPN.out; simp; omega)
            have HK7 := hid hK7
            clear hK7
            go_ret
            exact ⟨_, rfl, by rw [HPUT.out ⟨.slice B1 c.l.length F1, .slice y1 n1 y2, .slice y3 n2 y4, .slice y5 n3 y6⟩]; exact HK7.out.is, HW1.out.step HK7.out.below⟩
          · rw [hme]
            have HPUT : Hid (put1 m l d = cellsP ((ps.take k ++ [(⟨.slice A1 d.l.length C1, .slice A2 d.sums.length C2, .slice A3 d.mins.length C3, .slice A4 d.maxs.length C4⟩, d)]) ++ ps.drop k)) := by
              have e := HPE.out
              subst e
              show put1 m l d = _
              rw [put_new m l d (fun h => by
                unfold mergeB at hme
                rw [dif_pos h] at hme
                simpa using hme), ← HPS.out]
              simp [cellsP, List.map_take, List.map_drop]
            obtain ⟨XS, hXS⟩ : ∃ XS, (if cap = k then ao else Option.map (fun x => x.add (k * 6)) ao) = XS := ⟨_, rfl⟩
            have HXS := hid hXS
            clear hme
            go_wp2
            have hS0 : (fun w' : World => w'.cell? ⟨w.heap.size, 0, none⟩ = some (.int .i64 d.t) ∧ w'.cell? ⟨w.heap.size, 1, none⟩ = some (.slice A1 d.l.length C1) ∧ w'.cell? ⟨w.heap.size, 2, none⟩ = some (.int .i64 d.n) ∧ w'.cell? ⟨w.heap.size, 3, none⟩ = some (.slice A2 d.sums.length C2) ∧ w'.cell? ⟨w.heap.size, 4, none⟩ = some (.slice A3 d.mins.length C3) ∧ w'.cell? ⟨w.heap.size, 5, none⟩ = some (.slice A4 d.maxs.length C4)) W3.drew := ⟨d0, d1, d2, d3, d4, d5⟩
            refine wp_region_some (fun w' : World => w'.cell? ⟨w.heap.size, 0, none⟩ = some (.int .i64 d.t) ∧ w'.cell? ⟨w.heap.size, 1, none⟩ = some (.slice A1 d.l.length C1) ∧ w'.cell? ⟨w.heap.size, 2, none⟩ = some (.int .i64 d.n) ∧ w'.cell? ⟨w.heap.size, 3, none⟩ = some (.slice A2 d.sums.length C2) ∧ w'.cell? ⟨w.heap.size, 4, none⟩ = some (.slice A3 d.mins.length C3) ∧ w'.cell? ⟨w.heap.size, 5, none⟩ = some (.slice A4 d.maxs.length C4)) [7, 8] (by kernel_rfl) ?_
            (refine wpMix_take (i := 0) (v := ?_) rfl (by kernel_rfl) (fun _ _ _ h => h) (Or.inl ⟨by rfl, ?_⟩) hS0 ?_; rotate_left 1; (focus (intro w hSw; (try dsimp only at hSw); go_simp; try (with_reducible rfl))); (try simp only [Act.put, List.setIfInBounds_toArray, List.set_cons_zero, List.set_cons_succ]))
            (refine wpMix_take (i := 1) (v := ?_) rfl (by kernel_rfl) (fun _ _ _ h => h) (Or.inl ⟨by rfl, ?_⟩) hS0 ?_; rotate_left 1; (focus (intro w hSw; (try dsimp only at hSw); go_simp; try (with_reducible rfl))); (try simp only [Act.put, List.setIfInBounds_toArray, List.set_cons_zero, List.set_cons_succ]))
            (refine wpMix_take (i := 4) (v := ?_) rfl (by kernel_rfl) (fun _ _ _ h => h) (Or.inl ⟨by rfl, ?_⟩) hS0 ?_; rotate_left 1; (focus (intro w hSw; (try dsimp only at hSw); go_simp; try (with_reducible rfl))); (try simp only [Act.put, List.setIfInBounds_toArray, List.set_cons_zero, List.set_cons_succ]))
            (refine wpMix_take (i := 5) (v := ?_) rfl (by kernel_rfl) (fun _ _ _ h => h) (Or.inl ⟨by rfl, ?_⟩) hS0 ?_; rotate_left 1; (focus (intro w hSw; (try dsimp only at hSw); go_simp; try (with_reducible rfl))); (try simp only [Act.put, List.setIfInBounds_toArray, List.set_cons_zero, List.set_cons_succ]))
            (refine wpMix_take (i := 6) (v := ?_) rfl (by kernel_rfl) (fun _ _ _ h => h) (Or.inl ⟨by rfl, ?_⟩) hS0 ?_; rotate_left 1; (focus (intro w hSw; (try dsimp only at hSw); go_simp; try (with_reducible rfl))); (try simp only [Act.put, List.setIfInBounds_toArray, List.set_cons_zero, List.set_cons_succ]))
            refine wpMix_next (t := 2) (by kernel_rfl) ?_
            simp only [opsAt, List.flatMap_cons, List.flatMap_nil, List.take_succ_cons, List.take_zero, List.drop_succ_cons, List.drop_zero, List.append_nil, List.cons_append, List.nil_append]
            clear hXS
            go_wp2
            refine ⟨⟨cell_new (w := W3) d0 _, cell_new (w := W3) d1 _, cell_new (w := W3) d2 _, cell_new (w := W3) d3 _, cell_new (w := W3) d4 _, cell_new (w := W3) d5 _⟩, ?_⟩
            refine wpMix_next (t := 3) (by kernel_rfl) ?_
            simp only [opsAt, List.flatMap_cons, List.flatMap_nil, List.take_succ_cons, List.take_zero, List.drop_succ_cons, List.drop_zero, List.append_nil, List.cons_append, List.nil_append]
            go_wp2_with (at_builtin; go_loud (refine wpList_append_sl _ rfl _ _ 40 rfl W1.heap.size 46 ic _ 6 112 Try.underlying40 hi hiz0 hiz1 hiz2 rfl (by decide) (.slice o1 k o2) k _ rfl ((HR3.out.alloc _).drew) (.slice (some ⟨W3.heap.size, 0, none⟩) 1 1) 1 _ rfl ((SlAt.new W3 #[.int .i64 d.t, .slice A1 d.l.length C1, .int .i64 d.n, .slice A2 d.sums.length C2, .slice A3 d.mins.length C3, .slice A4 d.maxs.length C4] 46).drew) (by simp [Value.oneCell']) (by unfold maxLen; omega) (by omega) (by simp; omega) ?_); intro v1 w6 hown6 hg6 hb6)
            have far6 : ∀ {b o : Nat} {x : Value}, b < W1.heap.size → W3.cell? ⟨b, o, none⟩ = some x → w6.cell? ⟨b, o, none⟩ = some x := fun hb hc => own_far ((HR3.out.alloc _).drew) hg6 hb (cell_new (w := W3) hc _)
            refine ⟨⟨far6 zb1 d0, far6 zb1 d1, far6 zb1 d2, far6 zb1 d3, far6 zb1 d4, far6 zb1 d5⟩, ?_⟩
            have hK6 := (HK3.out.step (((Below.refl _ _).new (.cells #[.int .i64 d.t, .slice A1 d.l.length C1, .int .i64 d.n, .slice A2 d.sums.length C2, .slice A3 d.mins.length C3, .slice A4 d.maxs.length C4] 46)).drew)).push (qs := [(⟨.slice A1 d.l.length C1, .slice A2 d.sums.length C2, .slice A3 d.mins.length C3, .slice A4 d.maxs.length C4⟩, d)]) (v' := v1) (n' := k + 1) (fun p hp => by
              obtain rfl : p = _ := by simpa using hp
              exact HUD.out.step (HK3.out.below.trans ((((Below.refl W3.heap.size W3).new _).drew).mono zW13))) hg6 (by simpa [rowP, CellV.row] using hown6) (by have := HPN.out; simp; omega)
            have hsrc := (HSLP.out.from HAO.out hPl).below hK6.below
            rw [HXS.out] at hsrc
            refine wpMix_rest [7, 8] (by kernel_rfl) ?_
            simp only [opsAt, List.flatMap_cons, List.flatMap_nil, List.take_succ_cons, List.take_zero, List.drop_succ_cons, List.drop_zero, List.append_nil, List.cons_append, List.nil_append]
            have HK6 := hid hK6; have HO6 := hid hown6
            have z6 := hK6.below.size
            clear hown6 hg6 hb6 far6 hS0 hK6 d0 d1 d2 d3 d4 d5
            go_wp2_with (at_builtin; go_loud (refine wpList_append_sl _ rfl _ _ 40 rfl W1.heap.size 46 ic _ 6 112 Try.underlying40 hi hiz0 hiz1 hiz2 rfl (by decide) v1 (k + 1) _ rfl HO6.out (.slice XS (l.length - k) (cap - k)) (l.length - k) _ rfl hsrc (fun u hu => H1C.out u (List.mem_of_mem_drop hu)) (by unfold maxLen; omega) (by omega) (by omega) ?_); intro v2 w7 hown7 hg7 hb7; have H7 := hid (And.intro hown7 hg7); clear hown7 hg7 hb7)
            have hK7 := HK6.out.push (qs := ps.drop k) (v' := v2) (n' := k + 1 + (l.length - k)) (fun p hp => (HH.out p (List.mem_of_mem_drop hp)).step HK6.out.below) H7.out.2 (by
              have h7 := H7.out.1
              rw [flat_drop 6 rowP rowP_len] at h7
              simpa [rowP, CellV.row] using h7) (by have := HPN.out; simp; omega)
            have HK7 := hid hK7
            clear hK7
            go_ret
            exact ⟨_, rfl, by rw [HPUT.out]; exact HK7.out.is, HW1.out.step HK7.out.below⟩
end Go.Proofs.Ytdgeinipdphoeaa
/- Rollup: cells, unless they are too many, by the reference. -/
namespace Go.Proofs.Ytdgeinipdphoeaa
set_option linter.unusedVariables false
set_option linter.unusedSimpArgs false
set_option maxRecDepth 100000
open Go.ChangeShapes Go.WideShapes Go.ChangeAt Go.RowKit

theorem not_many {l : List CellD} (h : ∀ k (hk : k < l.length), manyB l[k] = false) : l.any manyB = false := by
  rw [List.any_eq_false]
  intro c hc
  obtain ⟨k, hk, rfl⟩ := List.mem_iff_getElem.1 hc
  rw [h k hk]; simp
theorem some_many {l : List CellD} {k : Nat} (hk : k < l.length) (h : manyB l[k] = true) : l.any manyB = true := List.any_eq_true.2 ⟨_, List.getElem_mem hk, h⟩
set_option maxHeartbeats 2000000 in
theorem refEnds_yes (v : Value) (l : List CellD) (w : World) (hv : CellsSl w v l) (hl : l.length ≤ 1000000) (hE : endsB l = true) :
    Calls Try.prog 59 #[v] w fun e w' => e = .returned (.tuple #[v, .int .i64 0]) ∧ Below w.heap.size w w' := by
  have HA := hid hv; have HE := hid hE
  obtain ⟨ao, cap, rfl, _⟩ := hv.shape
  clear hv hE
  go_enter Try.func59, Try.ntmps59
  go_wp2
  go_loopw [4] (fun i wr => ∃ k : Nat, k ≤ l.length ∧ i = .int .i64 (k : Nat) ∧ (∀ j (hj : j < l.length), j < k → manyB l[j] = false) ∧ Below w.heap.size w wr) (fun i _ => l.length - (intOf i).toNat)
  case atStart => exact ⟨0, Nat.zero_le _, rfl, fun j _ h => absurd h (Nat.not_lt_zero _), by (repeat' (first | (with_reducible exact Below.refl _ _) | (with_reducible assumption) | (with_reducible refine Below.new ?_ _) | (with_reducible refine Below.alloc ?_ ?_ _) | (with_reducible refine Below.drew ?_) | (with_reducible refine Below.drewN ?_ _) | (with_reducible refine Below.setCell ?_ ?_ _) | (refine Below.step ?_ (by assumption)) | go_size))⟩
  case round =>
    obtain ⟨k, hk, rfl, hbad, hbel⟩ := hrel
    have HB := hid hbad
    have hk0 : (0 : Int) ≤ (k : Int) := Int.natCast_nonneg _
    have hk6 : (k : Int) ≤ 1000000 := by omega
    clear hbad
    by_cases hlt : k < l.length
    · obtain ⟨b, off, vl, vs, vm, vx, rfl, _, _, _, _, _, _, c2, _, _, _⟩ := HA.out.at hlt
      replace c2 := cell_step c2 hbel
      cases hm : manyB l[k] with
      | true =>
        exact absurd HE.out (by unfold endsB; rw [some_many hlt hm]; simp)
      | false =>
        have HS : Hid (∀ j (hj : j < l.length), j < k + 1 → manyB l[j] = false) := fun j hj h => by
          by_cases e : j = k
          · subst e; exact hm
          · exact HB.out j hj (by omega)
        unfold manyB at hm
        have hm2 : decide (l[k].n > 1000000) = false := hm
        generalize l[k].n = n at *
        go_wp2
        go_roundw
        case rel => exact ⟨k + 1, hlt, by go_num, HS.out, hbel⟩
        case measure => simp [intOf]; omega
    · obtain rfl : k = l.length := by omega
      have hnm : l.any manyB = false := not_many (fun j hj => HB.out j hj hj)
      by_cases h : l.length ≤ 1000
      · have h1 : decide ((1000 : Int) < (l.length : Int)) = false := by simp; omega
        have h2 : decide ((l.length : Int) > 1000) = false := by simp; omega
        clear h hnm
        go_wp2
        go_ret2
        exact ⟨rfl, by (repeat' (first | (with_reducible exact Below.refl _ _) | (with_reducible assumption) | (with_reducible refine Below.new ?_ _) | (with_reducible refine Below.alloc ?_ ?_ _) | (with_reducible refine Below.drew ?_) | (with_reducible refine Below.drewN ?_ _) | (with_reducible refine Below.setCell ?_ ?_ _) | (refine Below.step ?_ (by assumption)) | go_size))⟩
      · exact absurd HE.out (by unfold endsB; simp [h])
set_option maxHeartbeats 2000000 in
theorem refEnds_no (v : Value) (l : List CellD) (w : World) (hv : CellsSl w v l) (hl : l.length ≤ 1000000) (hE : endsB l = false) :
    Calls Try.prog 59 #[v] w fun e w' => e = .returned (.tuple #[.slice none 0 0, .int .i64 121]) ∧ Below w.heap.size w w' := by
  have HA := hid hv; have HE := hid hE
  obtain ⟨ao, cap, rfl, _⟩ := hv.shape
  clear hv hE
  go_enter Try.func59, Try.ntmps59
  go_wp2
  go_loopw [4] (fun i wr => ∃ k : Nat, k ≤ l.length ∧ i = .int .i64 (k : Nat) ∧ (∀ j (hj : j < l.length), j < k → manyB l[j] = false) ∧ Below w.heap.size w wr) (fun i _ => l.length - (intOf i).toNat)
  case atStart => exact ⟨0, Nat.zero_le _, rfl, fun j _ h => absurd h (Nat.not_lt_zero _), by (repeat' (first | (with_reducible exact Below.refl _ _) | (with_reducible assumption) | (with_reducible refine Below.new ?_ _) | (with_reducible refine Below.alloc ?_ ?_ _) | (with_reducible refine Below.drew ?_) | (with_reducible refine Below.drewN ?_ _) | (with_reducible refine Below.setCell ?_ ?_ _) | (refine Below.step ?_ (by assumption)) | go_size))⟩
  case round =>
    obtain ⟨k, hk, rfl, hbad, hbel⟩ := hrel
    have HB := hid hbad
    have hk0 : (0 : Int) ≤ (k : Int) := Int.natCast_nonneg _
    have hk6 : (k : Int) ≤ 1000000 := by omega
    clear hbad
    by_cases hlt : k < l.length
    · obtain ⟨b, off, vl, vs, vm, vx, rfl, _, _, _, _, _, _, c2, _, _, _⟩ := HA.out.at hlt
      replace c2 := cell_step c2 hbel
      cases hm : manyB l[k] with
      | true =>
        unfold manyB at hm
        have hm2 : decide (l[k].n > 1000000) = true := hm
        generalize l[k].n = n at *
        go_wp2
        go_ret2
        exact ⟨rfl, by (repeat' (first | (with_reducible exact Below.refl _ _) | (with_reducible assumption) | (with_reducible refine Below.new ?_ _) | (with_reducible refine Below.alloc ?_ ?_ _) | (with_reducible refine Below.drew ?_) | (with_reducible refine Below.drewN ?_ _) | (with_reducible refine Below.setCell ?_ ?_ _) | (refine Below.step ?_ (by assumption)) | go_size))⟩
      | false =>
        have HS : Hid (∀ j (hj : j < l.length), j < k + 1 → manyB l[j] = false) := fun j hj h => by
          by_cases e : j = k
          · subst e; exact hm
          · exact HB.out j hj (by omega)
        unfold manyB at hm
        have hm2 : decide (l[k].n > 1000000) = false := hm
        generalize l[k].n = n at *
        go_wp2
        go_roundw
        case rel => exact ⟨k + 1, hlt, by go_num, HS.out, hbel⟩
        case measure => simp [intOf]; omega
    · obtain rfl : k = l.length := by omega
      have hnm : l.any manyB = false := not_many (fun j hj => HB.out j hj hj)
      by_cases h : l.length ≤ 1000
      · exact absurd HE.out (by unfold endsB; rw [hnm]; simp [h])
      · have h1 : decide ((1000 : Int) < (l.length : Int)) = true := by simp; omega
        have h2 : decide ((l.length : Int) > 1000) = true := by simp; omega
        clear h hnm
        go_wp2
        go_ret2
        exact ⟨rfl, by (repeat' (first | (with_reducible exact Below.refl _ _) | (with_reducible assumption) | (with_reducible refine Below.new ?_ _) | (with_reducible refine Below.alloc ?_ ?_ _) | (with_reducible refine Below.drew ?_) | (with_reducible refine Below.drewN ?_ _) | (with_reducible refine Below.setCell ?_ ?_ _) | (refine Below.step ?_ (by assumption)) | go_size))⟩
end Go.Proofs.Ytdgeinipdphoeaa
/- Rollup: the walk of the reference's 'Roll'. -/
namespace Go.Proofs.Ytdgeinipdphoeaa
set_option linter.unusedVariables false
set_option linter.unusedSimpArgs false
set_option maxRecDepth 100000
open Go.ChangeShapes Go.WideShapes Go.ChangeAt Go.RowKit

/-- The cells of those rows that fit. -/
def goodL (s : SchD) (rows : List RowD) : List CellD := puts s.ms.length [] ((rows.filter (fitsR s)).map (ofC s))
theorem goodL_all {s : SchD} {rows : List RowD} (h : rows.all (fitsR s) = true) : goodL s rows = rollL s rows := by
  unfold goodL rollL
  rw [List.filter_eq_self.2 (fun r hr => List.all_eq_true.1 h r hr)]
theorem goodL_snoc (s : SchD) (rows : List RowD) (r : RowD) : goodL s (rows ++ [r]) = if fitsR s r = true then put1 s.ms.length (goodL s rows) (ofC s r) else goodL s rows := by
  unfold goodL
  rw [List.filter_append]
  by_cases h : fitsR s r = true
  · rw [if_pos h, List.filter_cons_of_pos h, List.filter_nil, List.map_append]
    show List.foldl _ _ _ = _
    rw [List.foldl_append]
    rfl
  · rw [if_neg h, List.filter_cons_of_neg h, List.filter_nil, List.append_nil]
theorem goodL_rolled (s : SchD) (rows : List RowD) : Rolled s.ms.length (goodL s rows) := by
  refine (Rolled.nil _).puts (fun c hc => ?_) (fun c hc => ?_)
  · obtain ⟨r, hr, rfl⟩ := List.mem_map.1 hc
    exact ofC_ok (List.mem_filter.1 hr).2
  · obtain ⟨r, hr, rfl⟩ := List.mem_map.1 hc
    exact Int.le_of_lt Int.zero_lt_one
theorem goodL_len (s : SchD) (rows : List RowD) : (goodL s rows).length ≤ rows.length := by
  have h1 : (goodL s rows).length ≤ ([] : List CellD).length + ((rows.filter (fitsR s)).map (ofC s)).length := (Put.puts_len (cellRule s.ms.length) [] _).2
  have h2 := List.length_filter_le (fitsR s) rows
  simp at h1
  omega
theorem goodL_count (s : SchD) (rows : List RowD) : countT (goodL s rows) ≤ rows.length := by
  have h1 : countT (goodL s rows) = countT [] + countT ((rows.filter (fitsR s)).map (ofC s)) := countT_puts s.ms.length [] _
  rw [countT_ofC] at h1
  have h2 := List.length_filter_le (fitsR s) rows
  have h3 : countT ([] : List CellD) = 0 := rfl
  omega
theorem puts_sizes {m : Nat} : ∀ {k l : List CellD}, (∀ c ∈ l, SizeC c) → (∀ c ∈ k, SizeC c) → ∀ c ∈ puts m l k, SizeC c := by
  intro k
  induction k with
  | nil => intro l hl _; exact hl
  | cons d k ih =>
    intro l hl hk
    refine ih (l := put1 m l d) (fun c hc => ?_) (fun c hc => hk c (by simp [hc]))
    rcases Put.put_mem (cellRule m) hc with h | ⟨x, hx, h⟩ | ⟨x, hx, _, h⟩
    · rw [h]; exact hk d (by simp)
    · rw [h]; exact hl x hx
    · rw [h]; exact hl x hx
theorem goodL_sizes {s : SchD} {rows : List RowD} (h : ∀ r ∈ rows, Vals r.l) : ∀ c ∈ goodL s rows, SizeC c :=
  puts_sizes (fun c hc => by simp at hc) (fun c hc => by
    obtain ⟨r, hr, rfl⟩ := List.mem_map.1 hc
    exact (h r (List.mem_filter.1 hr).1).2)
def RefCellsPost (w : World) (l : List CellD) (E : Int) (e : Ending) (w' : World) : Prop :=
  Below w.heap.size w w' ∧ ((E = 0 ∧ ∃ v, e = .returned (.tuple #[v, .int .i64 0]) ∧ CellsSl w' v l) ∨ (¬ E = 0 ∧ e = .returned (.tuple #[.slice none 0 0, .int .i64 E])))
theorem refRoll_bad (s : SchD) (rows : List RowD) (vd vm v : Value) (w : World) (hd : StrsSl w vd s.ds) (hm : StrsSl w vm s.ms) (td : Texts s.ds) (tm : Texts s.ms) (hv : RowsSl w v rows) (hbad : okSch s = false) :
    Calls Try.prog 28 #[.agg #[vd, vm, .int .i64 s.g], v] w (RefCellsPost w (rollL s rows) (rollE s rows)) := by
  have HR := hid (fun W (h : Below w.heap.size w W) => refRight_any vd vm s.ds s.ms s.g W (hd.below h) (hm.below h) td tm)
  have HE : Hid (rollE s rows = 100) := by unfold Hid rollE; rw [hbad]; rfl
  obtain ⟨ad, cd, rfl, _, _, _⟩ := SlAt.shape hd
  obtain ⟨am, cm, rfl, _, _, _⟩ := SlAt.shape hm
  obtain ⟨ao, cap, rfl, _⟩ := hv.shape
  unfold okSch at hbad
  rw [hbad] at HR
  clear hd hm hv td tm hbad
  go_enter Try.func28, Try.ntmps28
  go_wp2_with ((go_at_call 22; ((with_reducible refine (HR.out _ (by (repeat' (first | (with_reducible exact Below.refl _ _) | (with_reducible assumption) | (with_reducible refine Below.new ?_ _) | (with_reducible refine Below.alloc ?_ ?_ _) | (with_reducible refine Below.drew ?_) | (with_reducible refine Below.drewN ?_ _) | (with_reducible refine Below.setCell ?_ ?_ _) | (refine Below.step ?_ (by assumption)) | go_size)))).mono ?_); rintro e w1 ⟨rfl, hb1⟩; obtain ⟨hc1, hf1, hk1, hz1⟩ := bcell3 hb1; (try simp only [World.size_alloc, World.size_drew] at hz1); have : w.heap.size < w1.heap.size := (by omega))))
  go_ret2
  exact ⟨by (repeat' (first | (with_reducible exact Below.refl _ _) | (with_reducible assumption) | (with_reducible refine Below.new ?_ _) | (with_reducible refine Below.alloc ?_ ?_ _) | (with_reducible refine Below.drew ?_) | (with_reducible refine Below.drewN ?_ _) | (with_reducible refine Below.setCell ?_ ?_ _) | (refine Below.step ?_ (by assumption)) | go_size)), .inr ⟨by rw [HE.out]; decide, by rw [HE.out]; rfl⟩⟩

theorem set6_blk {w : World} {b : Nat} {x0 x1 x2 x3 x4 x5 y0 y1 y2 y3 y4 y5 : Value} {T : TypeId} (h : w.heap[b]? = some (.cells #[x0, x1, x2, x3, x4, x5] T (0, 0))) : (set6 w b 0 y0 y1 y2 y3 y4 y5).heap[b]? = some (.cells #[y0, y1, y2, y3, y4, y5] T (0, 0)) := by
  have := blk_set (o := 0 + 5) (v := y5) (blk_set (o := 0 + 4) (v := y4) (blk_set (o := 0 + 3) (v := y3) (blk_set (o := 0 + 2) (v := y2) (blk_set (o := 0 + 1) (v := y1) (blk_set (o := 0) (v := y0) h)))))
  simpa [set6] using this
/-- What a row's cell is, and where it lies. -/
def RollAt (s : SchD) (r : RowD) (w wx : World) (v9 v10 : Value) : Prop :=
  ∃ (B : Nat) (u : CellV), v9 = .pointer (some ⟨B, 0, none⟩) ∧ v10 = .int .i64 (ofE s r) ∧ Below w.heap.size w wx ∧ B < wx.heap.size ∧
    (ofE s r = 0 → wx.heap[B]? = some (.cells #[.int .i64 (ofC s r).t, u.vl, .int .i64 1, u.vs, u.vm, u.vx] 46 (0, 0)) ∧ CellIs wx (u.row (ofC s r)) (ofC s r))

set_option maxHeartbeats 8000000 in
theorem refRoll_go (s : SchD) (rows : List RowD) (vd vm v : Value) (w : World) (hd : StrsSl w vd s.ds) (hm : StrsSl w vm s.ms) (td : Texts s.ds) (tm : Texts s.ms) (hv : RowsSl w v rows) (hok : RowsOk rows) (hlen : rows.length ≤ 100000) (hs : okSch s = true) :
    Calls Try.prog 28 #[.agg #[vd, vm, .int .i64 s.g], v] w (RefCellsPost w (rollL s rows) (rollE s rows)) := by
  have HR := hid (fun W (h : Below w.heap.size w W) => refRight_any vd vm s.ds s.ms s.g W (hd.below h) (hm.below h) td tm)
  have HOF := hid (fun (r : RowD) vl vn W (h : Below w.heap.size w W) (h1 : ValsSl W vl r.l) (h2 : IntsSl W vn r.xs) (h3 : Vals r.l ∧ ∀ x ∈ r.xs, I64 x) => refOf12_any s r vd vm vl vn W (hd.below h) (hm.below h) td tm h1 h3.1 h2 h3.2)
  have HV := hid hv; have HOK := hid hok; have HLEN := hid hlen; have HSC := hid hs
  obtain ⟨ad, cd, rfl, _, _, _⟩ := SlAt.shape hd
  obtain ⟨am, cm, rfl, _, _, _⟩ := SlAt.shape hm
  obtain ⟨ao, cap, rfl, _⟩ := hv.shape
  have hm4 : s.ms.length ≤ 4 := by
    unfold okSch rightS at hs
    simp only [Bool.and_eq_true, decide_eq_true_eq] at hs
    exact hs.2.1
  have HM4 := hid hm4
  unfold okSch at hs
  rw [hs] at HR
  clear hd hm hv td tm hs hok hm4
  go_enter Try.func28, Try.ntmps28
  go_wp2_with ((go_at_call 22; ((with_reducible refine (HR.out _ (by (repeat' (first | (with_reducible exact Below.refl _ _) | (with_reducible assumption) | (with_reducible refine Below.new ?_ _) | (with_reducible refine Below.alloc ?_ ?_ _) | (with_reducible refine Below.drew ?_) | (with_reducible refine Below.drewN ?_ _) | (with_reducible refine Below.setCell ?_ ?_ _) | (refine Below.step ?_ (by assumption)) | go_size)))).mono ?_); rintro e w1 ⟨rfl, hb1⟩; obtain ⟨hc1, hf1, hk1, hz1⟩ := bcell3 hb1; (try simp only [World.size_alloc, World.size_drew] at hz1); have : w.heap.size < w1.heap.size := (by omega))))
  have hB1 : Below w.heap.size w w1 := by (repeat' (first | (with_reducible exact Below.refl _ _) | (with_reducible assumption) | (with_reducible refine Below.new ?_ _) | (with_reducible refine Below.alloc ?_ ?_ _) | (with_reducible refine Below.drew ?_) | (with_reducible refine Below.drewN ?_ _) | (with_reducible refine Below.setCell ?_ ?_ _) | (refine Below.step ?_ (by assumption)) | go_size))
  have hk1 : w1.heap[w.heap.size]? = some (.cells #[.slice ad s.ds.length cd, .slice am s.ms.length cm, .int .i64 s.g] 24 (0, 0)) := blk_below (heap_at rfl) hb1
  have HB1 := hid (And.intro hB1 hk1)
  clear hb1 hc1 hf1 hk1 hz1 HR hB1
  go_loopw [6, 7, 8] (fun a e i wr => ∃ (k : Nat), k ≤ rows.length ∧ i = .int .i64 (k : Nat) ∧ CellsSl wr a (goodL s (rows.take k)) ∧ e = .int .i64 (if (rows.take k).all (fitsR s) = true then 0 else 101) ∧ wr.heap[w.heap.size]? = some (.cells #[.slice ad s.ds.length cd, .slice am s.ms.length cm, .int .i64 s.g] 24 (0, 0)) ∧ Below w.heap.size w wr) (fun _ _ i _ => rows.length - (intOf i).toNat)
  case atStart => exact ⟨0, Nat.zero_le _, rfl, ElemsSl.nil _, by simp, HB1.out.2, HB1.out.1⟩
  case round =>
    obtain ⟨k, hk, rfl, hcs, rfl, hbs, hbel⟩ := hrel
    have HCS := hid hcs; have HBS := hid hbs; have HB := hid hbel
    have hzb := blk_lt hbs
    have hk6 : (k : Int) ≤ 100000 := by omega
    have hk0 : (0 : Int) ≤ (k : Int) := Int.natCast_nonneg _
    obtain ⟨s0, s1, s2, _, _, _⟩ := three_at hbs
    obtain ⟨qo, qc, e, _⟩ := hcs.shape
    subst e
    obtain ⟨gL, hgL⟩ : ∃ g, goodL s (rows.take k) = g := ⟨_, rfl⟩
    obtain ⟨E, hE⟩ : ∃ E, (if (rows.take k).all (fitsR s) = true then (0 : Int) else 101) = E := ⟨_, rfl⟩
    rw [hgL, hE]
    rw [hgL] at HCS
    have HGL := hid hgL; have HEE := hid hE
    clear HB1 hcs hbs hgL hE
    by_cases hlt : k < rows.length
    · obtain ⟨b, off, vl, vn, rfl, g1, g2, c0, c1, c2⟩ := HV.out.at hlt
      have HO := hid (HOF.out rows[k] vl vn)
      have HOKK := hid (HOK.out _ (List.getElem_mem hlt))
      replace c0 := cell_step c0 hbel; replace c1 := cell_step c1 hbel; replace c2 := cell_step c2 hbel
      have HG1 := hid (g1.below hbel); have HG2 := hid (g2.below hbel)
      obtain ⟨l1, l2, rfl, _⟩ := SlAt.shape g1
      obtain ⟨n1, n2, rfl, _⟩ := SlAt.shape g2
      have HTK : Hid (rows.take (k + 1) = rows.take k ++ [rows[k]]) := List.take_succ_eq_append_getElem hlt
      have HMEM : Hid (rows[k] ∈ rows) := List.getElem_mem hlt
      have hltI : (k : Int) < (rows.length : Int) := by omega
      clear g1 g2 hbel
      generalize rows[k] = r at *
      go_wp2_with fail
      go_upto_region 8 with fail
      go_cut [9, 10] (fun s9 s10 wx => RollAt s r wr wx s9 s10)
      case first =>
        have hS0 : (fun w' : World => w'.cell? ⟨w.heap.size, 0, none⟩ = some (.slice ad s.ds.length cd) ∧ w'.cell? ⟨w.heap.size, 1, none⟩ = some (.slice am s.ms.length cm) ∧ w'.cell? ⟨w.heap.size, 2, none⟩ = some (.int .i64 s.g) ∧ w'.cell? ⟨b, off + k * 3, none⟩ = some (.int .i64 r.t) ∧ w'.cell? ⟨b, off + k * 3 + 1, none⟩ = some (.slice l1 r.l.length l2) ∧ w'.cell? ⟨b, off + k * 3 + 2, none⟩ = some (.slice n1 r.xs.length n2)) wr.drew := ⟨s0, s1, s2, c0, c1, c2⟩
        refine wp_region_two (fun w' : World => w'.cell? ⟨w.heap.size, 0, none⟩ = some (.slice ad s.ds.length cd) ∧ w'.cell? ⟨w.heap.size, 1, none⟩ = some (.slice am s.ms.length cm) ∧ w'.cell? ⟨w.heap.size, 2, none⟩ = some (.int .i64 s.g) ∧ w'.cell? ⟨b, off + k * 3, none⟩ = some (.int .i64 r.t) ∧ w'.cell? ⟨b, off + k * 3 + 1, none⟩ = some (.slice l1 r.l.length l2) ∧ w'.cell? ⟨b, off + k * 3 + 2, none⟩ = some (.slice n1 r.xs.length n2)) (fun _ => True) [10, 11] [10, 11] (by kernel_rfl) ?_
        (refine wpMu_take1 (i := 0) (v := ?_) rfl (by kernel_rfl) (fun _ _ _ h => h) (Or.inl ⟨by rfl, ?_⟩) hS0 ?_; rotate_left 1; (focus (intro w hSw; (try dsimp only at hSw); go_simp; try (with_reducible rfl))); (try simp only [Act.put, List.setIfInBounds_toArray, List.set_cons_zero, List.set_cons_succ]))
        (refine wpMu_take1 (i := 1) (v := ?_) rfl (by kernel_rfl) (fun _ _ _ h => h) (Or.inl ⟨by rfl, ?_⟩) hS0 ?_; rotate_left 1; (focus (intro w hSw; (try dsimp only at hSw); go_simp; try (with_reducible rfl))); (try simp only [Act.put, List.setIfInBounds_toArray, List.set_cons_zero, List.set_cons_succ]))
        (refine wpMu_take1 (i := 2) (v := ?_) rfl (by kernel_rfl) (fun _ _ _ h => h) (Or.inl ⟨by rfl, ?_⟩) hS0 ?_; rotate_left 1; (focus (intro w hSw; (try dsimp only at hSw); go_simp; try (with_reducible rfl))); (try simp only [Act.put, List.setIfInBounds_toArray, List.set_cons_zero, List.set_cons_succ]))
        (refine wpMu_take1 (i := 3) (v := ?_) rfl (by kernel_rfl) (fun _ _ _ h => h) (Or.inl ⟨by rfl, ?_⟩) hS0 ?_; rotate_left 1; (focus (intro w hSw; (try dsimp only at hSw); go_simp; try (with_reducible rfl))); (try simp only [Act.put, List.setIfInBounds_toArray, List.set_cons_zero, List.set_cons_succ]))
        (refine wpMu_take1 (i := 4) (v := ?_) rfl (by kernel_rfl) (fun _ _ _ h => h) (Or.inl ⟨by rfl, ?_⟩) hS0 ?_; rotate_left 1; (focus (intro w hSw; (try dsimp only at hSw); go_simp; try (with_reducible rfl))); (try simp only [Act.put, List.setIfInBounds_toArray, List.set_cons_zero, List.set_cons_succ]))
        by_cases hf : fitsR s r = true
        · have hofE := ofE_fits hf
          have HO2 : Hid (∀ W, Below w.heap.size w W → ValsSl W (.slice l1 r.l.length l2) r.l → IntsSl W (.slice n1 r.xs.length n2) r.xs → Calls Try.prog 30 _ W fun e w' => ∃ vs, e = .returned (.tuple #[.agg #[.int .i64 (cutV r.t s.g), .slice l1 r.l.length l2, .int .i64 1, vs, .slice n1 r.xs.length n2, .slice n1 r.xs.length n2], .int .i64 0]) ∧ w'.ownsRow W.heap.size 58 2 vs r.xs.length (r.xs.flatMap wcells) ∧ Below W.heap.size W w') := fun W h1 h2 h3 => (HO.out W h1 h2 h3 HOKK.out).mono fun e w' ⟨hb, h⟩ => by
            rcases h with ⟨_, u, h4, h5⟩ | ⟨h4, _⟩
            · exact ⟨u, h4, h5, hb⟩
            · exact absurd hofE h4
          have HFE := hid hofE
          clear hofE hf
          refine wpMu_pick [5, 9] (by kernel_rfl) (pick_two ?_ ?_) (by simp)
          all_goals simp only [opsAt, List.flatMap_cons, List.flatMap_nil, List.take_succ_cons, List.take_zero, List.drop_succ_cons, List.drop_zero, List.append_nil, List.cons_append, List.nil_append]
          · go_wp2_with (go_at_call 30; go_loud ((with_reducible refine (HO2.out _ HB.out.drew (HG1.out.below (Below.drew (Below.refl _ _))) (HG2.out.below (Below.drew (Below.refl _ _)))).mono ?_); rintro e w4 ⟨vs, rfl, ho4, hb4⟩))
            refine ⟨⟨fun _ h => ⟨cell_step h.1 hb4, cell_step h.2.1 hb4, cell_step h.2.2.1 hb4, cell_step h.2.2.2.1 hb4, cell_step h.2.2.2.2.1 hb4, cell_step h.2.2.2.2.2 hb4⟩, fun _ h => h⟩, ?_⟩
            (refine wpMu_free (i := 6) (v := ?_) rfl (by kernel_rfl) (fun _ _ _ h => h) (Or.inl ⟨by rfl, ?_⟩)  ?_; rotate_left 1; (focus (intro w hSw; (try dsimp only at hSw); go_simp; try (with_reducible rfl))); (try simp only [Act.put, List.setIfInBounds_toArray, List.set_cons_zero, List.set_cons_succ]))
            (refine wpMu_free (i := 7) (v := ?_) rfl (by kernel_rfl) (fun _ _ _ h => h) (Or.inl ⟨by rfl, ?_⟩)  ?_; rotate_left 1; (focus (intro w hSw; (try dsimp only at hSw); go_simp; try (with_reducible rfl))); (try simp only [Act.put, List.setIfInBounds_toArray, List.set_cons_zero, List.set_cons_succ]))
            (refine wpMu_free (i := 8) (v := ?_) rfl (by kernel_rfl) (fun _ _ _ h => h) (Or.inl ⟨by rfl, ?_⟩)  ?_; rotate_left 1; (focus (intro w hSw; (try dsimp only at hSw); go_simp; try (with_reducible rfl))); (try simp only [Act.put, List.setIfInBounds_toArray, List.set_cons_zero, List.set_cons_succ]))
            refine wpMu_pick [9] (by kernel_rfl) (pick_one ?_) (by simp)
            simp only [opsAt, List.flatMap_cons, List.flatMap_nil, List.take_succ_cons, List.take_zero, List.drop_succ_cons, List.drop_zero, List.append_nil, List.cons_append, List.nil_append]
            go_wp2
            refine ⟨⟨fun _ h => ⟨cell_new h.1 _, cell_new h.2.1 _, cell_new h.2.2.1 _, cell_new h.2.2.2.1 _, cell_new h.2.2.2.2.1 _, cell_new h.2.2.2.2.2 _⟩, fun _ h => h⟩, ?_⟩
            refine wpMu_rest [10, 11] (by kernel_rfl) ?_
            simp only [opsAt, List.flatMap_cons, List.flatMap_nil, List.take_succ_cons, List.take_zero, List.drop_succ_cons, List.drop_zero, List.append_nil, List.cons_append, List.nil_append]
            obtain ⟨y1, y2, e⟩ := row_shape ho4
            subst e
            have HO4 := hid ho4
            replace hb4 : Below wr.heap.size wr w4 := (Below.drew (Below.refl _ _)).trans hb4
            have HB4 := hid hb4
            have hz4 := hb4.size
            clear hS0 s0 s1 s2 c0 c1 c2 ho4 hb4
            go_wp2
            go_meet
            exact ⟨w4.heap.size, ⟨.slice l1 r.l.length l2, .slice y1 r.xs.length y2, .slice n1 r.xs.length n2, .slice n1 r.xs.length n2⟩, rfl, by rw [HFE.out], HB4.out.new _, by simp, fun _ => ⟨heap_at rfl, ⟨_, _, _, _, rfl, HG1.out.below (HB4.out.new _), WidesSl.own (HO4.out.alloc _), HG2.out.below (HB4.out.new _), HG2.out.below (HB4.out.new _)⟩⟩⟩
          · go_wp2
            refine ⟨⟨fun _ h => ⟨cell_new h.1 _, cell_new h.2.1 _, cell_new h.2.2.1 _, cell_new h.2.2.2.1 _, cell_new h.2.2.2.2.1 _, cell_new h.2.2.2.2.2 _⟩, fun _ h => h⟩, ?_⟩
            refine wpMu_pick [5] (by kernel_rfl) (pick_one ?_) (by simp)
            simp only [opsAt, List.flatMap_cons, List.flatMap_nil, List.take_succ_cons, List.take_zero, List.drop_succ_cons, List.drop_zero, List.append_nil, List.cons_append, List.nil_append]
            go_wp2_with (go_at_call 30; go_loud ((with_reducible refine (HO2.out _ ((HB.out.new _).drew) (HG1.out.below (((Below.refl _ _).new _).drew)) (HG2.out.below (((Below.refl _ _).new _).drew))).mono ?_); rintro e w4 ⟨vs, rfl, ho4, hb4⟩))
            refine ⟨⟨fun _ h => ⟨cell_step h.1 hb4, cell_step h.2.1 hb4, cell_step h.2.2.1 hb4, cell_step h.2.2.2.1 hb4, cell_step h.2.2.2.2.1 hb4, cell_step h.2.2.2.2.2 hb4⟩, fun _ h => h⟩, ?_⟩
            (refine wpMu_free (i := 6) (v := ?_) rfl (by kernel_rfl) (fun _ _ _ h => h) (Or.inl ⟨by rfl, ?_⟩)  ?_; rotate_left 1; (focus (intro w hSw; (try dsimp only at hSw); go_simp; try (with_reducible rfl))); (try simp only [Act.put, List.setIfInBounds_toArray, List.set_cons_zero, List.set_cons_succ]))
            (refine wpMu_free (i := 7) (v := ?_) rfl (by kernel_rfl) (fun _ _ _ h => h) (Or.inl ⟨by rfl, ?_⟩)  ?_; rotate_left 1; (focus (intro w hSw; (try dsimp only at hSw); go_simp; try (with_reducible rfl))); (try simp only [Act.put, List.setIfInBounds_toArray, List.set_cons_zero, List.set_cons_succ]))
            (refine wpMu_free (i := 8) (v := ?_) rfl (by kernel_rfl) (fun _ _ _ h => h) (Or.inl ⟨by rfl, ?_⟩)  ?_; rotate_left 1; (focus (intro w hSw; (try dsimp only at hSw); go_simp; try (with_reducible rfl))); (try simp only [Act.put, List.setIfInBounds_toArray, List.set_cons_zero, List.set_cons_succ]))
            refine wpMu_rest [10, 11] (by kernel_rfl) ?_
            simp only [opsAt, List.flatMap_cons, List.flatMap_nil, List.take_succ_cons, List.take_zero, List.drop_succ_cons, List.drop_zero, List.append_nil, List.cons_append, List.nil_append]
            obtain ⟨y1, y2, e⟩ := row_shape ho4
            subst e
            have HO4 := hid ho4
            have hz0 : w4.heap[wr.heap.size]? = some (.cells #[.int .i64 0, .slice none 0 0, .int .i64 0, .slice none 0 0, .slice none 0 0, .slice none 0 0] 46 (0, 0)) := by refine blk_below ?_ hb4; exact heap_at (w := wr) rfl
            obtain ⟨a0, a1, a2, a3, a4, a5⟩ := six_at hz0
            obtain ⟨f0, f1, f2, f3, f4, f5⟩ := six_free hz0
            have hbr : Below wr.heap.size wr w4 := (((Below.refl _ _).new _).drew).trans (hb4.mono (by simp))
            have HB4 := hid (And.intro hbr hz0)
            have hzw : wr.heap.size < w4.heap.size := blk_lt hz0
            clear hS0 s0 s1 s2 c0 c1 c2 ho4 hb4 hbr hz0
            go_wp2
            go_meet
            have ht := turn_set6 w4 wr.heap.size 0 (.int .i64 (cutV r.t s.g)) (.slice l1 r.l.length l2) (.int .i64 1) (.slice y1 r.xs.length y2) (.slice n1 r.xs.length n2) (.slice n1 r.xs.length n2)
            have hbw : Below wr.heap.size wr (set6 w4 wr.heap.size 0 (.int .i64 (cutV r.t s.g)) (.slice l1 r.l.length l2) (.int .i64 1) (.slice y1 r.xs.length y2) (.slice n1 r.xs.length n2) (.slice n1 r.xs.length n2)) := HB4.out.1.trans (ht.below (by omega) (by simp))
            have how := ht.row HO4.out (fun g hg hgb => by
              have h1 := (HO4.out.lt g hg).1
              have h2 : g = wr.heap.size := by simpa using hgb
              simp at h1
              omega)
            exact ⟨wr.heap.size, ⟨.slice l1 r.l.length l2, .slice y1 r.xs.length y2, .slice n1 r.xs.length n2, .slice n1 r.xs.length n2⟩, rfl, by rw [HFE.out], hbw, Nat.lt_of_lt_of_le hzw ht.size, fun _ => ⟨set6_blk HB4.out.2, ⟨_, _, _, _, rfl, HG1.out.below hbw, WidesSl.own how, HG2.out.below hbw, HG2.out.below hbw⟩⟩⟩
        · have hofE : ofE s r = 101 := by unfold ofE; rw [if_pos HSC.out, if_neg hf]
          have HO2 : Hid (∀ W, Below w.heap.size w W → ValsSl W (.slice l1 r.l.length l2) r.l → IntsSl W (.slice n1 r.xs.length n2) r.xs → Calls Try.prog 30 _ W fun e w' => e = .returned (.tuple #[zeroC, .int .i64 101]) ∧ Below W.heap.size W w') := fun W h1 h2 h3 => (HO.out W h1 h2 h3 HOKK.out).mono fun e w' ⟨hb, h⟩ => by
            rcases h with ⟨h4, _⟩ | ⟨_, h4⟩
            · rw [hofE] at h4; cases h4
            · rw [hofE] at h4; exact ⟨h4, hb⟩
          have HFE := hid hofE
          clear hofE hf
          refine wpMu_pick [5, 9] (by kernel_rfl) (pick_two ?_ ?_) (by simp)
          all_goals simp only [opsAt, List.flatMap_cons, List.flatMap_nil, List.take_succ_cons, List.take_zero, List.drop_succ_cons, List.drop_zero, List.append_nil, List.cons_append, List.nil_append]
          · go_wp2_with (go_at_call 30; go_loud ((with_reducible refine (HO2.out _ HB.out.drew (HG1.out.below (Below.drew (Below.refl _ _))) (HG2.out.below (Below.drew (Below.refl _ _)))).mono ?_); rintro e w4 ⟨rfl, hb4⟩))
            refine ⟨⟨fun _ h => ⟨cell_step h.1 hb4, cell_step h.2.1 hb4, cell_step h.2.2.1 hb4, cell_step h.2.2.2.1 hb4, cell_step h.2.2.2.2.1 hb4, cell_step h.2.2.2.2.2 hb4⟩, fun _ h => h⟩, ?_⟩
            (refine wpMu_free (i := 6) (v := ?_) rfl (by kernel_rfl) (fun _ _ _ h => h) (Or.inl ⟨by rfl, ?_⟩)  ?_; rotate_left 1; (focus (intro w hSw; (try dsimp only at hSw); go_simp; try (with_reducible rfl))); (try simp only [Act.put, List.setIfInBounds_toArray, List.set_cons_zero, List.set_cons_succ]))
            (refine wpMu_free (i := 7) (v := ?_) rfl (by kernel_rfl) (fun _ _ _ h => h) (Or.inl ⟨by rfl, ?_⟩)  ?_; rotate_left 1; (focus (intro w hSw; (try dsimp only at hSw); go_simp; try (with_reducible rfl))); (try simp only [Act.put, List.setIfInBounds_toArray, List.set_cons_zero, List.set_cons_succ]))
            (refine wpMu_free (i := 8) (v := ?_) rfl (by kernel_rfl) (fun _ _ _ h => h) (Or.inl ⟨by rfl, ?_⟩)  ?_; rotate_left 1; (focus (intro w hSw; (try dsimp only at hSw); go_simp; try (with_reducible rfl))); (try simp only [Act.put, List.setIfInBounds_toArray, List.set_cons_zero, List.set_cons_succ]))
            refine wpMu_pick [9] (by kernel_rfl) (pick_one ?_) (by simp)
            simp only [opsAt, List.flatMap_cons, List.flatMap_nil, List.take_succ_cons, List.take_zero, List.drop_succ_cons, List.drop_zero, List.append_nil, List.cons_append, List.nil_append]
            go_wp2
            refine ⟨⟨fun _ h => ⟨cell_new h.1 _, cell_new h.2.1 _, cell_new h.2.2.1 _, cell_new h.2.2.2.1 _, cell_new h.2.2.2.2.1 _, cell_new h.2.2.2.2.2 _⟩, fun _ h => h⟩, ?_⟩
            refine wpMu_rest [10, 11] (by kernel_rfl) ?_
            simp only [opsAt, List.flatMap_cons, List.flatMap_nil, List.take_succ_cons, List.take_zero, List.drop_succ_cons, List.drop_zero, List.append_nil, List.cons_append, List.nil_append]
            replace hb4 : Below wr.heap.size wr w4 := (Below.drew (Below.refl _ _)).trans hb4
            have HB4 := hid hb4
            clear hS0 s0 s1 s2 c0 c1 c2 hb4
            go_wp2
            go_meet
            exact ⟨w4.heap.size, ⟨.slice none 0 0, .slice none 0 0, .slice none 0 0, .slice none 0 0⟩, rfl, by rw [HFE.out], HB4.out.new _, by simp, fun h => absurd (HFE.out.symm.trans h) (by decide)⟩
          · go_wp2
            refine ⟨⟨fun _ h => ⟨cell_new h.1 _, cell_new h.2.1 _, cell_new h.2.2.1 _, cell_new h.2.2.2.1 _, cell_new h.2.2.2.2.1 _, cell_new h.2.2.2.2.2 _⟩, fun _ h => h⟩, ?_⟩
            refine wpMu_pick [5] (by kernel_rfl) (pick_one ?_) (by simp)
            simp only [opsAt, List.flatMap_cons, List.flatMap_nil, List.take_succ_cons, List.take_zero, List.drop_succ_cons, List.drop_zero, List.append_nil, List.cons_append, List.nil_append]
            go_wp2_with (go_at_call 30; go_loud ((with_reducible refine (HO2.out _ ((HB.out.new _).drew) (HG1.out.below (((Below.refl _ _).new _).drew)) (HG2.out.below (((Below.refl _ _).new _).drew))).mono ?_); rintro e w4 ⟨rfl, hb4⟩))
            refine ⟨⟨fun _ h => ⟨cell_step h.1 hb4, cell_step h.2.1 hb4, cell_step h.2.2.1 hb4, cell_step h.2.2.2.1 hb4, cell_step h.2.2.2.2.1 hb4, cell_step h.2.2.2.2.2 hb4⟩, fun _ h => h⟩, ?_⟩
            (refine wpMu_free (i := 6) (v := ?_) rfl (by kernel_rfl) (fun _ _ _ h => h) (Or.inl ⟨by rfl, ?_⟩)  ?_; rotate_left 1; (focus (intro w hSw; (try dsimp only at hSw); go_simp; try (with_reducible rfl))); (try simp only [Act.put, List.setIfInBounds_toArray, List.set_cons_zero, List.set_cons_succ]))
            (refine wpMu_free (i := 7) (v := ?_) rfl (by kernel_rfl) (fun _ _ _ h => h) (Or.inl ⟨by rfl, ?_⟩)  ?_; rotate_left 1; (focus (intro w hSw; (try dsimp only at hSw); go_simp; try (with_reducible rfl))); (try simp only [Act.put, List.setIfInBounds_toArray, List.set_cons_zero, List.set_cons_succ]))
            (refine wpMu_free (i := 8) (v := ?_) rfl (by kernel_rfl) (fun _ _ _ h => h) (Or.inl ⟨by rfl, ?_⟩)  ?_; rotate_left 1; (focus (intro w hSw; (try dsimp only at hSw); go_simp; try (with_reducible rfl))); (try simp only [Act.put, List.setIfInBounds_toArray, List.set_cons_zero, List.set_cons_succ]))
            refine wpMu_rest [10, 11] (by kernel_rfl) ?_
            simp only [opsAt, List.flatMap_cons, List.flatMap_nil, List.take_succ_cons, List.take_zero, List.drop_succ_cons, List.drop_zero, List.append_nil, List.cons_append, List.nil_append]
            have hz0 : w4.heap[wr.heap.size]? = some (.cells #[.int .i64 0, .slice none 0 0, .int .i64 0, .slice none 0 0, .slice none 0 0, .slice none 0 0] 46 (0, 0)) := by refine blk_below ?_ hb4; exact heap_at (w := wr) rfl
            obtain ⟨a0, a1, a2, a3, a4, a5⟩ := six_at hz0
            obtain ⟨f0, f1, f2, f3, f4, f5⟩ := six_free hz0
            have hbr : Below wr.heap.size wr w4 := (((Below.refl _ _).new _).drew).trans (hb4.mono (by simp))
            have HB4 := hid (And.intro hbr hz0)
            have hzw : wr.heap.size < w4.heap.size := blk_lt hz0
            clear hS0 s0 s1 s2 c0 c1 c2 hb4 hbr hz0
            go_wp2
            go_meet
            have ht := turn_set6 w4 wr.heap.size 0 (.int .i64 0) (.slice none 0 0) (.int .i64 0) (.slice none 0 0) (.slice none 0 0) (.slice none 0 0)
            have hbw : Below wr.heap.size wr (set6 w4 wr.heap.size 0 (.int .i64 0) (.slice none 0 0) (.int .i64 0) (.slice none 0 0) (.slice none 0 0) (.slice none 0 0)) := HB4.out.1.trans (ht.below (by omega) (by simp))
            exact ⟨wr.heap.size, ⟨.slice none 0 0, .slice none 0 0, .slice none 0 0, .slice none 0 0⟩, rfl, by rw [HFE.out], hbw, Nat.lt_of_lt_of_le hzw ht.size, fun h => absurd (HFE.out.symm.trans h) (by decide)⟩
      case rest =>
        obtain ⟨B, ⟨ul, us, um, ux⟩, rfl, rfl, hbx, hBx, hfit⟩ := hcut
        obtain ⟨W2, rfl⟩ : ∃ W, W = wc := ⟨_, rfl⟩
        have HBX := hid hbx
        have HBW := hid (HB.out.step hbx)
        clear s0 s1 s2 c0 c1 c2 hbx
        by_cases hf : fitsR s r = true
        · have hofE := ofE_fits hf
          obtain ⟨hblk, hci⟩ := hfit hofE
          obtain ⟨d0, d1, d2, d3, d4, d5⟩ := six_at hblk
          have hsub : ∀ q ∈ rows.take k, Vals q.l ∧ ∀ x ∈ q.xs, I64 x := fun q hq => HOK.out q (List.mem_of_mem_take hq)
          have hrl := goodL_rolled s (rows.take k)
          have hsz := goodL_sizes (s := s) (rows := rows.take k) (fun q hq => (hsub q hq).1)
          have hct := goodL_count s (rows.take k)
          have hln := goodL_len s (rows.take k)
          rw [HGL.out] at hrl hsz hct hln
          have htk : (rows.take k).length = k := by simp; omega
          rw [htk] at hct hln
          have hle := HLEN.out
          have HPUT := hid (refPut_any s.ms.length gL (ofC s r) (.slice qo gL.length qc) ⟨ul, us, um, ux⟩ W2 (HCS.out.below HBX.out) hci (by omega) (by have := HM4.out; omega) hsz HOKK.out.1.2
            (fun c hc => (hrl.all c hc).2) (ofC_ok hf).2 (fun c hc => by
              have h1 := hrl.nonneg c hc
              have h2 := le_countT hrl.nonneg c hc
              show wrap64 (c.n + 1) = c.n + 1
              unfold wrap64
              omega))
          have HNX : Hid (put1 s.ms.length gL (ofC s r) = goodL s (rows.take (k + 1))) := by
            unfold Hid
            rw [HTK.out, goodL_snoc, if_pos hf, HGL.out]
          have HEX : Hid ((if (rows.take (k + 1)).all (fitsR s) = true then (0 : Int) else 101) = E) := by
            unfold Hid
            rw [HTK.out, List.all_append, ← HEE.out]
            simp [hf]
          rw [HNX.out] at HPUT
          rw [hofE]
          clear hofE hf hsub hrl hsz hct hln htk hle hci hfit hblk
          obtain ⟨T, hT⟩ : ∃ T, (ofC s r).t = T := ⟨_, rfl⟩
          rw [hT] at d0
          have HP2 : Hid (Calls Try.prog 58 #[.slice qo gL.length qc, .agg #[.int .i64 T, ul, .int .i64 1, us, um, ux]] W2 (RefPutPost W2 (goodL s (rows.take (k + 1))))) := by
            rw [← hT]
            exact HPUT
          clear hT HPUT
          go_wp2_with (go_at_call 58; go_loud ((with_reducible refine (HP2.out).mono ?_); rintro e w3 ⟨v3, rfl, hc3, hb3⟩; have HC3 := hid hc3; have HB3 := hid hb3; clear hc3 hb3))
          go_roundw
          case rel => exact ⟨k + 1, hlt, by go_num, HC3.out, by rw [HEX.out], blk_below (blk_below HBS.out HBX.out) HB3.out, HBW.out.step HB3.out⟩
          case measure => simp [intOf]; omega
        · have hofE : ofE s r = 101 := by unfold ofE; rw [if_pos HSC.out, if_neg hf]
          have HNX : Hid (goodL s (rows.take (k + 1)) = gL) := by
            unfold Hid
            rw [HTK.out, goodL_snoc, if_neg hf, HGL.out]
          have HEX : Hid ((if (rows.take (k + 1)).all (fitsR s) = true then (0 : Int) else 101) = 101) := by
            unfold Hid
            rw [HTK.out, List.all_append]
            simp [hf]
          rw [hofE]
          clear hofE hf hfit
          go_wp2
          go_roundw
          case rel => exact ⟨k + 1, hlt, by go_num, by rw [HNX.out]; exact HCS.out.below HBX.out, by rw [HEX.out], blk_below HBS.out HBX.out, HBW.out⟩
          case measure => simp [intOf]; omega
    · obtain rfl : k = rows.length := by omega
      have hgl := HGL.out
      have hee := HEE.out
      rw [List.take_length] at hgl hee
      clear hlt
      by_cases hall : rows.all (fitsR s) = true
      · rw [if_pos hall] at hee
        have hL : rollL s rows = gL := by rw [← hgl, goodL_all hall]
        have hln := goodL_len s rows
        rw [hgl] at hln
        have hle := HLEN.out
        have hE : rollE s rows = if endsB gL = true then 0 else 121 := by unfold rollE; rw [if_pos HSC.out, if_pos hall, hL]
        have HE := hid hE; have HLL := hid hL
        subst hee
        cases hcase : endsB gL with
        | true =>
          have HEN := hid (fun W (h : Below wr.heap.size wr W) => refEnds_yes (.slice qo gL.length qc) gL W (HCS.out.below h) (by omega) hcase)
          rw [hcase] at HE
          clear hcase hall hL hln hle hE hgl hbel
          go_wp2_with (go_at_call 59; go_loud ((with_reducible refine (HEN.out _ (by (repeat' (first | (with_reducible exact Below.refl _ _) | (with_reducible assumption) | (with_reducible refine Below.new ?_ _) | (with_reducible refine Below.alloc ?_ ?_ _) | (with_reducible refine Below.drew ?_) | (with_reducible refine Below.drewN ?_ _) | (with_reducible refine Below.setCell ?_ ?_ _) | (refine Below.step ?_ (by assumption)) | go_size)))).mono ?_); rintro e w3 ⟨rfl, hb3⟩; have HB3 := hid hb3; clear hb3))
          go_ret2
          exact ⟨by have := HB.out; have := HB3.out; (repeat' (first | (with_reducible exact Below.refl _ _) | (with_reducible assumption) | (with_reducible refine Below.new ?_ _) | (with_reducible refine Below.alloc ?_ ?_ _) | (with_reducible refine Below.drew ?_) | (with_reducible refine Below.drewN ?_ _) | (with_reducible refine Below.setCell ?_ ?_ _) | (refine Below.step ?_ (by assumption)) | go_size)), .inl ⟨by simpa using HE.out, .slice qo gL.length qc, rfl, by rw [HLL.out]; exact HCS.out.below HB3.out⟩⟩
        | false =>
          have HEN := hid (fun W (h : Below wr.heap.size wr W) => refEnds_no (.slice qo gL.length qc) gL W (HCS.out.below h) (by omega) hcase)
          rw [hcase] at HE
          clear hcase hall hL hln hle hE hgl hbel
          go_wp2_with (go_at_call 59; go_loud ((with_reducible refine (HEN.out _ (by (repeat' (first | (with_reducible exact Below.refl _ _) | (with_reducible assumption) | (with_reducible refine Below.new ?_ _) | (with_reducible refine Below.alloc ?_ ?_ _) | (with_reducible refine Below.drew ?_) | (with_reducible refine Below.drewN ?_ _) | (with_reducible refine Below.setCell ?_ ?_ _) | (refine Below.step ?_ (by assumption)) | go_size)))).mono ?_); rintro e w3 ⟨rfl, hb3⟩; have HB3 := hid hb3; clear hb3))
          go_ret2
          exact ⟨by have := HB.out; have := HB3.out; (repeat' (first | (with_reducible exact Below.refl _ _) | (with_reducible assumption) | (with_reducible refine Below.new ?_ _) | (with_reducible refine Below.alloc ?_ ?_ _) | (with_reducible refine Below.drew ?_) | (with_reducible refine Below.drewN ?_ _) | (with_reducible refine Below.setCell ?_ ?_ _) | (refine Below.step ?_ (by assumption)) | go_size)), .inr ⟨by rw [HE.out]; decide, by rw [HE.out]; rfl⟩⟩
      · rw [if_neg hall] at hee
        have HE : Hid (rollE s rows = 101) := by unfold Hid rollE; rw [if_pos HSC.out, if_neg hall]
        subst hee
        clear hall hgl hbel
        go_wp2
        go_ret2
        exact ⟨by have := HB.out; (repeat' (first | (with_reducible exact Below.refl _ _) | (with_reducible assumption) | (with_reducible refine Below.new ?_ _) | (with_reducible refine Below.alloc ?_ ?_ _) | (with_reducible refine Below.drew ?_) | (with_reducible refine Below.drewN ?_ _) | (with_reducible refine Below.setCell ?_ ?_ _) | (refine Below.step ?_ (by assumption)) | go_size)), .inr ⟨by rw [HE.out]; decide, by rw [HE.out]; rfl⟩⟩
theorem refRoll_any (s : SchD) (rows : List RowD) (vd vm v : Value) (w : World) (hd : StrsSl w vd s.ds) (hm : StrsSl w vm s.ms) (td : Texts s.ds) (tm : Texts s.ms) (hv : RowsSl w v rows) (hok : RowsOk rows) (hlen : rows.length ≤ 100000) :
    Calls Try.prog 28 #[.agg #[vd, vm, .int .i64 s.g], v] w (RefCellsPost w (rollL s rows) (rollE s rows)) := by
  cases h : okSch s with
  | true => exact refRoll_go s rows vd vm v w hd hm td tm hv hok hlen h
  | false => exact refRoll_bad s rows vd vm v w hd hm td tm hv h
end Go.Proofs.Ytdgeinipdphoeaa
