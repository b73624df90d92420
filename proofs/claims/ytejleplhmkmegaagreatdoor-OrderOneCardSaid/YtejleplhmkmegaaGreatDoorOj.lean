/- Texts joined: SchK, SchL, Mixed, SchN, OrE, OrF, OrG. -/
import Derived.Test.YtejleplhmkmegaaGreatDoorOi
import Derived.Test.YtejleplhmkmegaaGreatDoorOa
import Derived.OrdersHeld
import Derived.StillTail
import Derived.Test.YtejleplhmkmegaaGreatDoorOe
/- Schemas: the reference's 'Dim', 'Metric', 'Fits'. -/
namespace Go.Proofs.YtejleplhmkmegaaGreatDoor
set_option linter.unusedVariables false
set_option linter.unusedSimpArgs false
set_option maxRecDepth 100000
open Go.ChangeShapes Go.WideShapes Go.ChangeAt Go.RowKit

theorem placeI_false (r : Int) : placeI false r = 0 := by simp [placeI]
theorem placeB_false (r : Int) : placeB false r = false := by simp [placeB]

set_option maxHeartbeats 1000000 in
theorem refDim_any (vd vm : Value) (ds ms : List ByteArray) (g : Int) (x : ByteArray) (w : World) (hd : StrsSl w vd ds) (hm : StrsSl w vm ms) (td : Texts ds) (tm : Texts ms) :
    Calls Tryz.prog 131 #[.agg #[vd, vm, .int .i64 g], .string x] w fun e w' => e = .returned (.tuple #[.int .i64 (placeI (rightS ds ms g) (Lib.idxOfS ds x)), .bool (placeB (rightS ds ms g) (Lib.idxOfS ds x))]) ∧ Below w.heap.size w w' := by
  have HR := hid (fun W (h : Below w.heap.size w W) => refRight_any vd vm ds ms g W (hd.below h) (hm.below h) td tm)
  have HP := hid (fun W (h : Below w.heap.size w W) => refPlace_any vd ds x W (hd.below h) td)
  obtain ⟨ad, cd, rfl, _, _, _⟩ := SlAt.shape hd
  obtain ⟨am, cm, rfl, _, _, _⟩ := SlAt.shape hm
  clear hd hm td tm
  generalize Lib.idxOfS ds x = r at *
  generalize ds.length = nd at *
  generalize ms.length = nm at *
  generalize rightS ds ms g = rs at *
  cases rs with
  | false =>
    rw [placeI_false, placeB_false]
    go_enter Tryz.func131, Tryz.ntmps131
    go_wp2_with (go_at_call 69; ((with_reducible refine (HR.out _ (by (repeat' (first | (with_reducible exact Below.refl _ _) | (with_reducible assumption) | (with_reducible refine Below.new ?_ _) | (with_reducible refine Below.alloc ?_ ?_ _) | (with_reducible refine Below.drew ?_) | (with_reducible refine Below.drewN ?_ _) | (with_reducible refine Below.setCell ?_ ?_ _) | (refine Below.step ?_ (by assumption)) | go_size)))).mono ?_); rintro e w1 ⟨rfl, hb1⟩; obtain ⟨hc1, hf1, hk1, hz1⟩ := bcell3 hb1; (try simp only [World.size_alloc, World.size_drew] at hz1); have : w.heap.size < w1.heap.size := (by omega)))
    go_ret2
    exact ⟨rfl, by (repeat' (first | (with_reducible exact Below.refl _ _) | (with_reducible assumption) | (with_reducible refine Below.new ?_ _) | (with_reducible refine Below.alloc ?_ ?_ _) | (with_reducible refine Below.drew ?_) | (with_reducible refine Below.drewN ?_ _) | (with_reducible refine Below.setCell ?_ ?_ _) | (refine Below.step ?_ (by assumption)) | go_size))⟩
  | true =>
    generalize placeI true r = pi at *
    generalize placeB true r = pb at *
    go_enter Tryz.func131, Tryz.ntmps131
    go_wp2_with (first
      | (go_at_call 69; ((with_reducible refine (HR.out _ (by (repeat' (first | (with_reducible exact Below.refl _ _) | (with_reducible assumption) | (with_reducible refine Below.new ?_ _) | (with_reducible refine Below.alloc ?_ ?_ _) | (with_reducible refine Below.drew ?_) | (with_reducible refine Below.drewN ?_ _) | (with_reducible refine Below.setCell ?_ ?_ _) | (refine Below.step ?_ (by assumption)) | go_size)))).mono ?_); rintro e w1 ⟨rfl, hb1⟩; obtain ⟨hc1, hf1, hk1, hz1⟩ := bcell3 hb1; (try simp only [World.size_alloc, World.size_drew] at hz1); have : w.heap.size < w1.heap.size := (by omega)))
      | (go_at_call 138; ((with_reducible refine (HP.out _ (by (repeat' (first | (with_reducible exact Below.refl _ _) | (with_reducible assumption) | (with_reducible refine Below.new ?_ _) | (with_reducible refine Below.alloc ?_ ?_ _) | (with_reducible refine Below.drew ?_) | (with_reducible refine Below.drewN ?_ _) | (with_reducible refine Below.setCell ?_ ?_ _) | (refine Below.step ?_ (by assumption)) | go_size)))).mono ?_); rintro e w2 ⟨rfl, rfl⟩)))
    go_ret2
    exact ⟨rfl, by (repeat' (first | (with_reducible exact Below.refl _ _) | (with_reducible assumption) | (with_reducible refine Below.new ?_ _) | (with_reducible refine Below.alloc ?_ ?_ _) | (with_reducible refine Below.drew ?_) | (with_reducible refine Below.drewN ?_ _) | (with_reducible refine Below.setCell ?_ ?_ _) | (refine Below.step ?_ (by assumption)) | go_size))⟩

set_option maxHeartbeats 1000000 in
theorem refMetric_any (vd vm : Value) (ds ms : List ByteArray) (g : Int) (x : ByteArray) (w : World) (hd : StrsSl w vd ds) (hm : StrsSl w vm ms) (td : Texts ds) (tm : Texts ms) :
    Calls Tryz.prog 73 #[.agg #[vd, vm, .int .i64 g], .string x] w fun e w' => e = .returned (.tuple #[.int .i64 (placeI (rightS ds ms g) (Lib.idxOfS ms x)), .bool (placeB (rightS ds ms g) (Lib.idxOfS ms x))]) ∧ Below w.heap.size w w' := by
  have HR := hid (fun W (h : Below w.heap.size w W) => refRight_any vd vm ds ms g W (hd.below h) (hm.below h) td tm)
  have HP := hid (fun W (h : Below w.heap.size w W) => refPlace_any vm ms x W (hm.below h) tm)
  obtain ⟨ad, cd, rfl, _, _, _⟩ := SlAt.shape hd
  obtain ⟨am, cm, rfl, _, _, _⟩ := SlAt.shape hm
  clear hd hm td tm
  generalize Lib.idxOfS ms x = r at *
  generalize ds.length = nd at *
  generalize ms.length = nm at *
  generalize rightS ds ms g = rs at *
  cases rs with
  | false =>
    rw [placeI_false, placeB_false]
    go_enter Tryz.func73, Tryz.ntmps73
    go_wp2_with (go_at_call 69; ((with_reducible refine (HR.out _ (by (repeat' (first | (with_reducible exact Below.refl _ _) | (with_reducible assumption) | (with_reducible refine Below.new ?_ _) | (with_reducible refine Below.alloc ?_ ?_ _) | (with_reducible refine Below.drew ?_) | (with_reducible refine Below.drewN ?_ _) | (with_reducible refine Below.setCell ?_ ?_ _) | (refine Below.step ?_ (by assumption)) | go_size)))).mono ?_); rintro e w1 ⟨rfl, hb1⟩; obtain ⟨hc1, hf1, hk1, hz1⟩ := bcell3 hb1; (try simp only [World.size_alloc, World.size_drew] at hz1); have : w.heap.size < w1.heap.size := (by omega)))
    go_ret2
    exact ⟨rfl, by (repeat' (first | (with_reducible exact Below.refl _ _) | (with_reducible assumption) | (with_reducible refine Below.new ?_ _) | (with_reducible refine Below.alloc ?_ ?_ _) | (with_reducible refine Below.drew ?_) | (with_reducible refine Below.drewN ?_ _) | (with_reducible refine Below.setCell ?_ ?_ _) | (refine Below.step ?_ (by assumption)) | go_size))⟩
  | true =>
    generalize placeI true r = pi at *
    generalize placeB true r = pb at *
    go_enter Tryz.func73, Tryz.ntmps73
    go_wp2_with (first
      | (go_at_call 69; ((with_reducible refine (HR.out _ (by (repeat' (first | (with_reducible exact Below.refl _ _) | (with_reducible assumption) | (with_reducible refine Below.new ?_ _) | (with_reducible refine Below.alloc ?_ ?_ _) | (with_reducible refine Below.drew ?_) | (with_reducible refine Below.drewN ?_ _) | (with_reducible refine Below.setCell ?_ ?_ _) | (refine Below.step ?_ (by assumption)) | go_size)))).mono ?_); rintro e w1 ⟨rfl, hb1⟩; obtain ⟨hc1, hf1, hk1, hz1⟩ := bcell3 hb1; (try simp only [World.size_alloc, World.size_drew] at hz1); have : w.heap.size < w1.heap.size := (by omega)))
      | (go_at_call 138; ((with_reducible refine (HP.out _ (by (repeat' (first | (with_reducible exact Below.refl _ _) | (with_reducible assumption) | (with_reducible refine Below.new ?_ _) | (with_reducible refine Below.alloc ?_ ?_ _) | (with_reducible refine Below.drew ?_) | (with_reducible refine Below.drewN ?_ _) | (with_reducible refine Below.setCell ?_ ?_ _) | (refine Below.step ?_ (by assumption)) | go_size)))).mono ?_); rintro e w2 ⟨rfl, rfl⟩)))
    go_ret2
    exact ⟨rfl, by (repeat' (first | (with_reducible exact Below.refl _ _) | (with_reducible assumption) | (with_reducible refine Below.new ?_ _) | (with_reducible refine Below.alloc ?_ ?_ _) | (with_reducible refine Below.drew ?_) | (with_reducible refine Below.drewN ?_ _) | (with_reducible refine Below.setCell ?_ ?_ _) | (refine Below.step ?_ (by assumption)) | go_size))⟩

end Go.Proofs.YtejleplhmkmegaaGreatDoor
/- What the laws cut: values of at most ten, texts. -/
namespace Go.Proofs.YtejleplhmkmegaaGreatDoor
set_option linter.unusedVariables false
set_option linter.unusedSimpArgs false
set_option maxRecDepth 100000
open Go.ChangeShapes Go.WideShapes Go.ChangeAt Go.RowKit

def cutS (n : Nat) (s : ByteArray) : ByteArray := s.extract 0 (min s.size n)
theorem cutS_size (n : Nat) (s : ByteArray) : (cutS n s).size ≤ n := by unfold cutS; rw [ByteArray.size_extract]; omega
theorem cutS_is (n : Nat) (s : ByteArray) : s.extract 0 (min (s.size : Int) (n : Int)).toNat = cutS n s := by
  unfold cutS
  rw [show (min (s.size : Int) (n : Int)).toNat = min s.size n by omega]
def valCut (v : ValD) : ValD := ⟨cutS 110 v.s, v.nl⟩
def valsCut (l : List ValD) : List ValD := (l.take 10).map valCut
theorem info_val : (Tryz.prog.info? 65).map (fun i => (i.zero, i.size, i.bytes)) = some (some (.agg #[.string { data := #[] }, .bool false]), 2, 24) := by kernel_rfl

set_option maxHeartbeats 2000000 in
theorem vals_any (v : Value) (l : List ValD) (w : World) (hv : ValsSl w v l) (hl : ∀ v ∈ l, v.s.size ≤ 9223372036854775807) :
    Calls Tryz.prog 24 #[v] w fun e w' => ∃ v', e = .returned v' ∧ w'.ownsRow w.heap.size 65 2 v' (valsCut l).length ((valsCut l).flatMap ValD.cells) ∧ Below w.heap.size w w' := by
  obtain ⟨i0, hi, hiz0, hiz1, hiz2⟩ := info_parts info_val
  obtain ⟨ao, cap, rfl, h1, h2, h3, hA⟩ := ValsSl.parts hv
  have HA := hid hA
  have HZ := hid (fun i (hi : i < l.length) => hl l[i] (List.getElem_mem hi))
  clear hl
  obtain ⟨N, hN⟩ : ∃ N, min l.length 10 = N := ⟨_, rfl⟩
  have HN := hid hN
  have HLn : Hid ((valsCut l).length = N) := by unfold Hid; rw [← hN]; simp [valsCut, Nat.min_comm]
  rw [HLn.out]
  have HT : Hid (∀ k (hk : k < l.length), k < N → ((l.take (k + 1)).map valCut).flatMap ValD.cells = ((l.take k).map valCut).flatMap ValD.cells ++ [.string (cutS 110 l[k].s), .bool l[k].nl]) := fun k hk _ => by
    rw [List.take_succ_eq_append_getElem hk, List.map_append, List.flatMap_append]
    rfl
  obtain ⟨R, hR⟩ : ∃ R, (valsCut l).flatMap ValD.cells = R := ⟨_, rfl⟩
  rw [hR]
  have HE : Hid (((l.take N).map valCut).flatMap ValD.cells = R) := by
    unfold Hid
    rw [← hR]
    unfold valsCut
    congr 2
    rw [← hN]
    by_cases h : l.length ≤ 10
    · rw [List.take_of_length_le (by omega), List.take_of_length_le h]
    · rw [show min l.length 10 = 10 by omega]
  clear hA hv HLn hR
  unfold maxLen at h2
  obtain ⟨L, hL⟩ : ∃ L, l.length = L := ⟨_, rfl⟩
  have HL := hid hL
  have hN10 : N ≤ 10 := by omega
  have hNL : N ≤ L := by omega
  have hcase : N = L ∨ N = 10 := by omega
  have HCS := hid hcase
  rw [hL] at h1 ⊢
  clear hL hN hcase
  go_enter Tryz.func24, Tryz.ntmps24
  go_wp2
  go_loopw [3, 4] (fun o i wr => ∃ k : Nat, k ≤ N ∧ i = .int .i64 k ∧ wr.ownsRow w.heap.size 65 2 o k (((l.take k).map valCut).flatMap ValD.cells) ∧ Below w.heap.size w wr) (fun _ i _ => N - (intOf i).toNat)
  case atStart => exact ⟨0, Nat.zero_le _, rfl, by simpa using World.ownsRow_nil _ _ _ _, Below.refl _ _⟩
  case round =>
    obtain ⟨k, hk, rfl, hown, hbel⟩ := hrel
    by_cases hkN : k < N
    · have hlen : k < l.length := by rw [HL.out]; omega
      obtain ⟨b, off, rfl, hc⟩ := HA.out (by omega)
      obtain ⟨c1, c2⟩ := hc k hlen
      have hblt : b < w.heap.size := World.block_lt_of_cell? _ _ c1
      have d1 := cell_step c1 hbel
      have d2 := cell_step c2 hbel
      have hz := HZ.out k hlen
      have ht := HT.out k hlen hkN
      generalize l[k].s = s at *
      generalize l[k].nl = bl at *
      have HT2 := hid ht; have HB := hid hbel; have HO := hid hown
      clear ht hbel hown hc c1 c2
      have g1 : (0 : Int) ≤ (k : Int) := Int.natCast_nonneg _
      have g2 : (k : Int) < (L : Int) := by omega
      have g3 : k < L := by omega
      have g4 : k < 10 := by omega
      obtain ⟨W0, hW0⟩ : ∃ W0, wr = W0 := ⟨_, rfl⟩
      rw [hW0] at HB HO d1 d2 ⊢
      clear hW0
      have im := ite_min
      have q1 : (0 : Int) ≤ min (s.size : Int) 110 := by omega
      have q2 : min (s.size : Int) 110 ≤ (s.size : Int) := by omega
      have q3 : s.extract 0 (min (s.size : Int) 110).toNat = cutS 110 s := cutS_is 110 s
      go_wp2
      go_region_held3 (fun w' => w'.cell? ⟨b, off + k * 2, none⟩ = some (.string s) ∧ w'.cell? ⟨b, off + k * 2 + 1, none⟩ = some (.bool bl)) (first | exact ⟨e0, e1⟩ | go_keep) ((first
        | (refine step_append_sl _ (by rfl) _ _ _ (by rfl) w.heap.size 65 i0 (.agg #[.string { data := #[] }, .bool false]) 2 24 Tryz.underlying34 hi hiz0 hiz1 hiz2 rfl (by decide) _ k _ (by rfl) ((HO.out.alloc _).drew) (.slice (some ⟨W0.heap.size, 0, none⟩) 1 1) 1 [.string (cutS 110 s), .bool bl] (by rfl) ((SlAt.new W0 #[.string (cutS 110 s), .bool bl] 65).drew) (by simp [Value.oneCell']) (by unfold maxLen; omega) (by omega) (by have := HB.out.size; go_size) ?_; intro v1 w1 hown1 hgrow1 hb1; have e0 : w1.cell? ⟨b, off + k * 2, none⟩ = some (.string s) := own_far ((HO.out.alloc _).drew) hgrow1 hblt (by go_simp); have e1 : w1.cell? ⟨b, off + k * 2 + 1, none⟩ = some (.bool bl) := own_far ((HO.out.alloc _).drew) hgrow1 hblt (by go_simp); have hB1 : Below w.heap.size w w1 := own_below ((HO.out.alloc _).drew) hgrow1 (by have := HB.out; (repeat' (first | (with_reducible exact Below.refl _ _) | (with_reducible assumption) | (with_reducible refine Below.new ?_ _) | (with_reducible refine Below.alloc ?_ ?_ _) | (with_reducible refine Below.drew ?_) | (with_reducible refine Below.drewN ?_ _) | (with_reducible refine Below.setCell ?_ ?_ _) | (refine Below.step ?_ (by assumption)) | go_size))) (Nat.le_refl _))))
      have hown2 : w1.ownsRow w.heap.size 65 2 v1 (k + 1) (((l.take (k + 1)).map valCut).flatMap ValD.cells) := by rw [HT2.out]; exact hown1
      have HO2 := hid hown2; have HB2 := hid hB1
      clear hown1 hown2 hgrow1 hb1 hB1
      go_wp2
      go_roundw
      case rel => exact ⟨k + 1, by omega, by go_num, HO2.out, HB2.out⟩
      case measure => simp [intOf]; omega
    · obtain rfl : k = N := by omega
      rw [HE.out] at hown
      have HO := hid hown; have HB := hid hbel
      clear hown hbel
      rcases HCS.out with h | h
      · subst h
        go_wp2
        go_ret
        exact ⟨u3, rfl, HO.out, HB.out⟩
      · subst h
        by_cases h10 : L = 10
        · subst h10
          go_wp2
          go_ret
          exact ⟨u3, rfl, HO.out, HB.out⟩
        · have h11 : 10 < L := by omega
          clear h10
          go_wp2
          go_ret
          exact ⟨u3, rfl, HO.out, HB.out⟩
end Go.Proofs.YtejleplhmkmegaaGreatDoor
/- A region that draws its order, of three kinds of operations: some that read what is the same in each world of a class (they are taken first), some that come in one order and keep the class, some that come in one order behind all those that read: one walk. -/
namespace Go
section
variable {P : Program} {ops : Array Oper} {Q : Exit → Act → World → Prop} {md : Region.Mode} {S : World → Prop} {E : Nat → Bool}

/-- Does one wait for another, directly or through others? -/
def needsB (md : Region.Mode) (ops : Array Oper) : Nat → Nat → Nat → Bool
  | 0, _, _ => false
  | f + 1, j, i => match ops[j]? with
    | none => false
    | some oj => oj.after.any fun e => Region.binds md e && (e.on == i || needsB md ops f e.on i)
def ClosedL (md : Region.Mode) (ops : Array Oper) (listed : Array Bool) : Prop := ∀ j oj, ops[j]? = some oj → listed.getD j false = true → ∀ e ∈ oj.after, Region.binds md e = true → listed.getD e.on false = true
theorem ClosedL.set {listed : Array Bool} {i : Nat} (h : ClosedL md ops listed) (hi : i ∈ Region.ready md ops listed) : ClosedL md ops (listed.setIfInBounds i true) := by
  obtain ⟨_, oi, hoi, hall⟩ := mem_ready.1 hi
  intro j oj hj hl e he hb
  by_cases hij : i = j
  · subst hij
    have : oj = oi := Option.some.inj (hj.symm.trans hoi)
    subst this
    exact getD_set_true (hall e he hb)
  · rw [getD_set_ne false hij] at hl
    exact getD_set_true (h j oj hj hl e he hb)
theorem needs_listed {listed : Array Bool} {i : Nat} (hcl : ClosedL md ops listed) : ∀ (f j : Nat), needsB md ops f j i = true → (∀ oj, ops[j]? = some oj → ∀ e ∈ oj.after, Region.binds md e = true → listed.getD e.on false = true) → listed.getD i false = true
  | 0, _, h, _ => by simp [needsB] at h
  | f + 1, j, h, ha => by
    unfold needsB at h
    split at h
    · cases h
    · rename_i oj hoj
      obtain ⟨e, he, hb⟩ := Array.any_eq_true'.1 h
      simp only [Bool.and_eq_true, Bool.or_eq_true, beq_iff_eq] at hb
      have hl := ha oj hoj e he hb.1
      rcases hb.2 with h2 | h2
      · rw [← h2]; exact hl
      · exact needs_listed hcl f e.on h2 (fun ok hk e' he' hb' => hcl e.on ok hk hl e' he' hb')

/-- One of those numbers? -/
def exE (EX : List Nat) (j : Nat) : Bool := EX.contains j
/-- Whatever order is picked; behind each operation that is not of E the class holds. -/
def wpMix (P : Program) (md : Region.Mode) (ops : Array Oper) (Q : Exit → Act → World → Prop) (S : World → Prop) (E : Nat → Bool) : Nat → Array Bool → Act → World → Prop
  | 0, listed, a, w => Region.ready md ops listed = [] ∧ Q .normal a w
  | fuel + 1, listed, a, w =>
    (Region.ready md ops listed = [] → Q .normal a w) ∧
    ∀ i ∈ Region.ready md ops listed, wpOp P ops Q i (fun a' w' => (E i = false → S w') ∧ wpMix P md ops Q S E fuel (listed.setIfInBounds i true) a' w') a w
theorem wpAny_of_some : ∀ (fuel : Nat) (listed : Array Bool) (a : Act) (w : World), wpMix P md ops Q S E fuel listed a w → wpAny P md ops Q fuel listed a w
  | 0, _, _, _, h => h
  | fuel + 1, _, _, _, h => ⟨h.1, fun i hi => wpOp_mono (fun a' w' h' => wpAny_of_some fuel _ a' w' h'.2) (h.2 i hi)⟩
theorem wp_region_some {id : Nat} {l : List Oper} {a : Act} {w : World} (S : World → Prop) (EX : List Nat) (hm : P.follows .mixedOrders = true)
    (h : wpMix P .any l.toArray Q S (exE EX) l.length (Array.replicate l.length false) a w.drew) : (Code.region id l.toArray true).wp P Q a w :=
  wp_region_any hm (wpAny_of_some (S := S) (E := exE EX) _ _ _ _ (by simpa using h))

theorem wpMix_first {i : Nat} {oi : Oper} {v : Value} {T : World → Prop} (hi : ops[i]? = some oi) (hsel : ∀ (j : Nat) (o : Oper) cs b, ops[j]? = some o → o.op ≠ .select cs b)
    (hQ : ∀ c a w, Q (.panic c) (a.put oi.dst v) w → Q (.panic c) a w) (hTS : ∀ w, T w → E i = false → S w) (hST : ∀ w, S w → T w) :
    ∀ (fuel : Nat) (listed : Array Bool) (a : Act) (w : World), ClosedL md ops listed → ((∀ w, T w) ∨ ∀ j, E j = true → listed.getD j false = true ∨ ∃ f, needsB md ops f j i = true) →
      (∀ j oj, ops[j]? = some oj → j ≠ i → listed.getD j true = false → (∀ e ∈ oj.after, Region.binds md e = true → e.on ≠ i) → oi.apart ops oj = true) →
      i ∈ Region.ready md ops listed → YieldsIf P ops T oi v a → T w →
      wpMix P md ops Q S E fuel (listed.setIfInBounds i true) (a.put oi.dst v) w → wpMix P md ops Q S E (fuel + 1) listed a w := by
  intro fuel
  induction fuel with
  | zero =>
    intro listed a w _ _ _ hr hy hS H
    refine ⟨fun h => (by rw [h] at hr; cases hr), fun j hj => ?_⟩
    by_cases hji : j = i
    · subst hji; exact hy.wpOp hi hS ⟨hTS w hS, H⟩
    · have := ready_mono hj hji
      rw [H.1] at this
      cases this
  | succ fuel ih =>
    intro listed a w hcl hET hfree hr hy hS H
    refine ⟨fun h => (by rw [h] at hr; cases hr), fun j hj => ?_⟩
    by_cases hji : j = i
    · subst hji; exact hy.wpOp hi hS ⟨hTS w hS, H⟩
    · have h1 := H.2 j (ready_mono hj hji)
      obtain ⟨hjun, oj, hoj, hall⟩ := mem_ready.1 hj
      have hun : listed.getD i false = false := getD_both (mem_ready.1 hr).1
      have hnot : ∀ e ∈ oj.after, Region.binds md e = true → e.on ≠ i := fun e he hb heq => by
        have h1 := hall e he hb
        rw [heq, hun] at h1
        cases h1
      have h2 := wpOp_putIf hoj (hfree j oj hoj hji hjun hnot) (fun cs b => hsel i oi cs b hi) (fun cs b => hsel j oj cs b hoj) hQ hy h1
      have hfree' : ∀ k ok, ops[k]? = some ok → k ≠ i → (listed.setIfInBounds j true).getD k true = false →
          (∀ e ∈ ok.after, Region.binds md e = true → e.on ≠ i) → oi.apart ops ok = true := fun k ok hk hki hun hno => by
        refine hfree k ok hk hki ?_ hno
        by_cases hjk : j = k
        · subst hjk; exact hjun
        · rw [getD_set_ne true hjk] at hun; exact hun
      have hTw : ∀ w', (E j = false → S w') → T w' := fun w' hw' => by
        rcases hET with h | h
        · exact h w'
        · cases hEj : E j with
          | false => exact hST w' (hw' hEj)
          | true =>
            rcases h j hEj with h | ⟨f, h⟩
            · rw [getD_both hjun] at h; cases h
            · have h3 := needs_listed hcl f j h (fun ok hk e he hb => by
                have : ok = oj := Option.some.inj (hk.symm.trans hoj)
                subst this
                exact hall e he hb)
              rw [hun] at h3
              cases h3
      refine wpOp_mono (fun a' w' h3 => ⟨h3.2.1, ih (listed.setIfInBounds j true) a' w' (hcl.set hj) (hET.imp_right fun h k hk => (h k hk).imp_left getD_set_true) hfree' (ready_mono hr (Ne.symm hji)) h3.1 (hTw w' h3.2.1) ?_⟩) h2
      rw [Array.setIfInBounds_comm _ _ hji]
      exact h3.2.2

def closedB (md : Region.Mode) (ops : Array Oper) (listed : Array Bool) : Bool :=
  (List.range ops.size).all fun j => !listed.getD j false || match ops[j]? with
    | some oj => oj.after.all fun e => !Region.binds md e || listed.getD e.on false
    | none => true
theorem closedB_spec {listed : Array Bool} (h : closedB md ops listed = true) : ClosedL md ops listed := by
  intro j oj hj hl e he hb
  unfold closedB at h
  rw [List.all_eq_true] at h
  have h1 := h j (List.mem_range.2 (Array.getElem?_eq_some_iff.1 hj).1)
  simp only [hj, hl, Bool.not_true, Bool.false_or] at h1
  have := Array.all_eq_true_iff_forall_mem.1 h1 e he
  simpa [hb] using this
/-- One that reads what is the same in each world of the class; those of EX wait for it. -/
theorem wpMix_take {EX : List Nat} {i : Nat} {oi : Oper} {v : Value} {fuel : Nat} {listed : Array Bool} {a : Act} {w : World} (hi : ops[i]? = some oi)
    (hB : (Region.noSelect ops && (closedB md ops listed && (Region.free md ops listed i && ((Region.ready md ops listed).contains i && EX.all fun j => listed.getD j false || needsB md ops ops.size j i)))) = true)
    (hQ : ∀ c a w, Q (.panic c) (a.put oi.dst v) w → Q (.panic c) a w) (hy : YieldsIf P ops S oi v a) (hS : S w)
    (h : wpMix P md ops Q S (exE EX) fuel (listed.setIfInBounds i true) (a.put oi.dst v) w) : wpMix P md ops Q S (exE EX) (fuel + 1) listed a w := by
  simp only [Bool.and_eq_true] at hB
  obtain ⟨hs, hc, hf, hr, hE⟩ := hB
  refine wpMix_first (T := S) hi (Region.noSelect_spec hs) hQ (fun _ h _ => h) (fun _ h => h) fuel listed a w (closedB_spec hc) (.inr fun j hj => ?_) (Region.free_spec hi hf) (by simpa using hr) hy hS h
  have := List.all_eq_true.1 hE j (by simpa [exE] using hj)
  rw [Bool.or_eq_true] at this
  exact this.imp_right fun h => ⟨_, h⟩
/-- One that looks at no world; it is of EX. -/
theorem wpMix_free {EX : List Nat} {i : Nat} {oi : Oper} {v : Value} {fuel : Nat} {listed : Array Bool} {a : Act} {w : World} (hi : ops[i]? = some oi)
    (hB : (Region.noSelect ops && (closedB md ops listed && (Region.free md ops listed i && ((Region.ready md ops listed).contains i && EX.contains i)))) = true)
    (hQ : ∀ c a w, Q (.panic c) (a.put oi.dst v) w → Q (.panic c) a w) (hy : YieldsIf P ops (fun _ => True) oi v a)
    (h : wpMix P md ops Q S (exE EX) fuel (listed.setIfInBounds i true) (a.put oi.dst v) w) : wpMix P md ops Q S (exE EX) (fuel + 1) listed a w := by
  simp only [Bool.and_eq_true] at hB
  obtain ⟨hs, hc, hf, hr, hE⟩ := hB
  exact wpMix_first (T := fun _ => True) hi (Region.noSelect_spec hs) hQ (fun _ _ h => by unfold exE at h; rw [hE] at h; cases h) (fun _ _ => trivial) fuel listed a w (closedB_spec hc) (.inl fun _ => trivial) (Region.free_spec hi hf) (by simpa using hr) hy trivial h
/-- The operations at some places. -/
def opsAt (l : List Oper) (T : List Nat) : List Oper := T.flatMap fun t => (l.drop t).take 1
/-- The next one is the only one that may come up, and keeps the class. -/
def NextS (P : Program) (md : Region.Mode) (ops : Array Oper) (Q : Exit → Act → World → Prop) (S : World → Prop) (E : Nat → Bool) (fuel : Nat) (listed : Array Bool) : Exit → Act → World → Prop
  | .normal, a, w => S w ∧ wpMix P md ops Q S E fuel listed a w
  | e, a, w => Q e a w
theorem opsAt_one {l : List Oper} {t : Nat} {o : Oper} (h : l.toArray[t]? = some o) : opsAt l [t] = [o] := by
  have h2 : l[t]? = some o := by simpa using h
  obtain ⟨hlt, he⟩ := List.getElem?_eq_some_iff.1 h2
  unfold opsAt
  rw [List.flatMap_cons, List.flatMap_nil, List.append_nil, List.drop_eq_getElem_cons hlt, List.take_succ_cons, List.take_zero, he]
theorem wpOp_of_list {l : List Oper} {t : Nat} {a : Act} {w : World} {Q' : Exit → Act → World → Prop} (ht : t < l.length) (hp : ∀ e a w, e ≠ .normal → Q' e a w → Q e a w) (hlo : LetsOut Q' → LetsOut Q)
    (h : wpList P l.toArray Q' (opsAt l [t]) a w) : wpOp P l.toArray Q t (Q' .normal) a w := by
  have h0 : l.toArray[t]? = some l[t] := by simp [ht]
  rw [opsAt_one h0] at h
  unfold wpOp
  simp only [h0]
  have h' : (if Region.wanted l[t] (yielded l.toArray a.tmps) then l[t].wp P a w (wpList P l.toArray Q' []) Q' ∨ (l[t].asks P a w ∧ LetsOut Q') else wpList P l.toArray Q' [] (a.put l[t].dst undef) w) := h
  split
  · rename_i hw
    rw [if_pos hw] at h'
    rcases h' with h' | ⟨h1, h2⟩
    · refine .inl ?_
      unfold Oper.wp at *
      generalize (execOp a.eval l[t]).run P w = r at *
      cases r with
      | ok n w' =>
        cases n <;> simp only [Oper.upon] at h' ⊢
        case value u => exact h'
        case skip => exact h'
        case defer d => exact h'
        case enter f args =>
          refine Calls.mono h' fun e w'' he => ?_
          cases e with
          | returned u => exact he
          | panicked c => exact hp _ _ _ (by simp) he
          | outgrown => exact hlo he
        case row row args => exact Rows.mono h' fun u w'' he => he
      | halt x w' =>
        cases x <;> simp only [Oper.upon] at h' ⊢
        case panic u => exact hp _ _ _ (by simp) h'
    · exact .inr ⟨h1, hlo h2⟩
  · rename_i hw
    rw [if_neg hw] at h'
    exact h'
theorem wpMix_next {EX : List Nat} {l : List Oper} {t fuel : Nat} {listed : Array Bool} {a : Act} {w : World} (hB : (decide (t < l.length) && (Region.ready md l.toArray listed == [t])) = true)
    (h : wpList P l.toArray (NextS P md l.toArray Q S (exE EX) fuel (listed.setIfInBounds t true)) (opsAt l [t]) a w) : wpMix P md l.toArray Q S (exE EX) (fuel + 1) listed a w := by
  simp only [Bool.and_eq_true, decide_eq_true_eq, beq_iff_eq] at hB
  obtain ⟨ht, hr⟩ := hB
  refine ⟨fun h0 => (by rw [hr] at h0; cases h0), fun i hi => ?_⟩
  rw [hr] at hi
  obtain rfl : i = t := by simpa using hi
  refine wpOp_mono (fun a' w' h' => ⟨fun _ => h'.1, h'.2⟩) (wpOp_of_list (Q := Q) (Q' := NextS P md l.toArray Q S (exE EX) fuel (listed.setIfInBounds i true)) ht (fun e a w hne h => ?_) (fun ⟨a, w, h⟩ => ⟨a, w, h⟩) h)
  cases e <;> first | exact absurd rfl hne | exact h
/-- One of some comes next. -/
theorem wpMix_pick {EX : List Nat} {l : List Oper} {fuel : Nat} {listed : Array Bool} {a : Act} {w : World} (T : List Nat) (hB : ((T.all fun t => decide (t < l.length)) && (Region.ready md l.toArray listed == T)) = true)
    (h : ∀ t ∈ T, wpList P l.toArray (NextS P md l.toArray Q S (exE EX) fuel (listed.setIfInBounds t true)) (opsAt l [t]) a w) (hT : T ≠ []) : wpMix P md l.toArray Q S (exE EX) (fuel + 1) listed a w := by
  simp only [Bool.and_eq_true, List.all_eq_true, decide_eq_true_eq, beq_iff_eq] at hB
  obtain ⟨ht, hr⟩ := hB
  refine ⟨fun h0 => absurd (hr.symm.trans h0) hT, fun i hi => ?_⟩
  rw [hr] at hi
  refine wpOp_mono (fun a' w' h' => ⟨fun _ => h'.1, h'.2⟩) (wpOp_of_list (Q := Q) (Q' := NextS P md l.toArray Q S (exE EX) fuel (listed.setIfInBounds i true)) (ht i hi) (fun e a w hne h => ?_) (fun ⟨a, w, h⟩ => ⟨a, w, h⟩) (h i hi))
  cases e <;> first | exact absurd rfl hne | exact h
theorem pick_two {P : Nat → Prop} {a b : Nat} (h1 : P a) (h2 : P b) : ∀ t ∈ [a, b], P t := by
  intro t ht
  simp only [List.mem_cons, List.not_mem_nil, or_false] at ht
  rcases ht with rfl | rfl
  · exact h1
  · exact h2
theorem pick_three {P : Nat → Prop} {a b c : Nat} (h1 : P a) (h2 : P b) (h3 : P c) : ∀ t ∈ [a, b, c], P t := by
  intro t ht
  simp only [List.mem_cons, List.not_mem_nil, or_false] at ht
  rcases ht with rfl | rfl | rfl
  · exact h1
  · exact h2
  · exact h3
/-- The rest comes in one order. -/
def restB (md : Region.Mode) (l : List Oper) : List Nat → Array Bool → Bool
  | [], listed => Region.ready md l.toArray listed == []
  | t :: T, listed => decide (t < l.length) && (Region.ready md l.toArray listed == [t]) && restB md l T (listed.setIfInBounds t true)
theorem wpAny_rest {l : List Oper} : ∀ (T : List Nat) (listed : Array Bool) (a : Act) (w : World), restB md l T listed = true → wpList P l.toArray Q (opsAt l T) a w → wpAny P md l.toArray Q T.length listed a w
  | [], listed, a, w, hB, h => ⟨by simpa [restB] using hB, h⟩
  | t :: T, listed, a, w, hB, h => by
    simp only [restB, Bool.and_eq_true, decide_eq_true_eq, beq_iff_eq] at hB
    obtain ⟨⟨ht, hr⟩, hB⟩ := hB
    refine ⟨fun h0 => (by rw [hr] at h0; cases h0), fun i hi => ?_⟩
    rw [hr] at hi
    obtain rfl : i = t := by simpa using hi
    have h0 : l.toArray[i]? = some l[i] := by simp [ht]
    have e : opsAt l (i :: T) = l[i] :: opsAt l T := by
      have := opsAt_one h0
      unfold opsAt at this ⊢
      simp only [List.flatMap_cons, List.flatMap_nil, List.append_nil] at this ⊢
      rw [this]; rfl
    rw [e] at h
    have h' : (if Region.wanted l[i] (yielded l.toArray a.tmps) then l[i].wp P a w (wpList P l.toArray Q (opsAt l T)) Q ∨ (l[i].asks P a w ∧ LetsOut Q) else wpList P l.toArray Q (opsAt l T) (a.put l[i].dst undef) w) := h
    have h2 : wpOp P l.toArray Q i (wpList P l.toArray Q (opsAt l T)) a w := by
      unfold wpOp
      simp only [h0]
      exact h'
    exact wpOp_mono (fun a' w' h3 => wpAny_rest T _ a' w' hB h3) h2
theorem wpMix_of_any {EX : List Nat} : ∀ (fuel : Nat) (listed : Array Bool) (a : Act) (w : World), (∀ j, ops[j]? ≠ none → listed.getD j true = false → EX.contains j = true) → wpAny P md ops Q fuel listed a w → wpMix P md ops Q S (exE EX) fuel listed a w
  | 0, _, _, _, _, h => h
  | fuel + 1, listed, a, w, hE, h => ⟨h.1, fun i hi => by
    have hri := mem_ready.1 hi
    refine wpOp_mono (fun a' w' h' => ⟨fun he => ?_, wpMix_of_any fuel _ a' w' (fun j hj hl => hE j hj ?_) h'⟩) (h.2 i hi)
    · obtain ⟨hl, oi, hoi, _⟩ := hri
      have := hE i (by rw [hoi]; simp) hl
      unfold exE at he
      rw [this] at he
      cases he
    · by_cases hij : i = j
      · subst hij
        exact hri.1
      · rwa [getD_set_ne true hij] at hl⟩
theorem wpMix_rest {EX : List Nat} {l : List Oper} {fuel : Nat} {listed : Array Bool} {a : Act} {w : World} (T : List Nat) (hB : (restB md l T listed && ((T.length == fuel) && (List.range l.length).all fun j => listed.getD j true || EX.contains j)) = true)
    (h : wpList P l.toArray Q (opsAt l T) a w) : wpMix P md l.toArray Q S (exE EX) fuel listed a w := by
  simp only [Bool.and_eq_true, beq_iff_eq] at hB
  obtain ⟨h1, h2, h3⟩ := hB
  subst h2
  refine wpMix_of_any _ _ _ _ (fun j hj hl => ?_) (wpAny_rest T listed a w h1 h)
  have hlt : j < l.length := by
    rcases Nat.lt_or_ge j l.length with h | h
    · exact h
    · exact absurd (by simp [h]) hj
  have := List.all_eq_true.1 h3 j (List.mem_range.2 hlt)
  rw [hl, Bool.false_or] at this
  exact this
end
end Go
/- What the laws cut: a row; some texts. -/
namespace Go.Proofs.YtejleplhmkmegaaGreatDoor
set_option linter.unusedVariables false
set_option linter.unusedSimpArgs false
set_option maxRecDepth 100000
open Go.ChangeShapes Go.WideShapes Go.ChangeAt Go.RowKit

theorem cell_new {w : World} {a : Addr} {v : Value} (h : w.cell? a = some v) (o : Obj) : (w.alloc o).cell? a = some v := (World.cell?_alloc_lt w o a (World.block_lt_of_cell? _ _ h)).trans h
theorem row_far {w : World} {base b o : Nat} {e : TypeId} {size : Nat} {v : Value} {n : Nat} {xs : List Value} (h : w.ownsRow base e size v n xs) (hb : b < base) {u : Value} : (w.setCell ⟨b, o, none⟩ u).ownsRow base e size v n xs := by
  refine ⟨h.1, ?_⟩
  rcases h.2 with h2 | ⟨g, cap, cur, hv, hg, hh, r⟩
  · exact .inl h2
  · exact .inr ⟨g, cap, cur, hv, hg, (heap_set_other (by omega)).trans hh, r⟩
theorem row_below {w w' : World} {base : Nat} {e : TypeId} {size : Nat} {v : Value} {n : Nat} {xs : List Value} (h : w.ownsRow base e size v n xs) (hb : Below w.heap.size w w') : w'.ownsRow base e size v n xs :=
  h.kept (row := none) ⟨hb.os, hb.tape, hb.output, hb.size, fun i hi _ => hb.block i hi⟩ (by cases v.ownBlock <;> simp)
theorem set3 {w : World} {b : Nat} {x y z x' y' z' : Value} {T : TypeId} (h : w.heap[b]? = some (.cells #[x, y, z] T (0, 0))) : (((w.setCell ⟨b, 0, none⟩ x').setCell ⟨b, 1, none⟩ y').setCell ⟨b, 2, none⟩ z').heap[b]? = some (.cells #[x', y', z'] T (0, 0)) := by
  have := blk_set (o := 2) (v := z') (blk_set (o := 1) (v := y') (blk_set (o := 0) (v := x') h))
  simpa using this
theorem set3_other {w : World} {b c : Nat} {x' y' z' : Value} {o : Obj} (h : w.heap[c]? = some o) (hne : c ≠ b) : (((w.setCell ⟨b, 0, none⟩ x').setCell ⟨b, 1, none⟩ y').setCell ⟨b, 2, none⟩ z').heap[c]? = some o :=
  (heap_set_other hne).trans ((heap_set_other hne).trans ((heap_set_other hne).trans h))
theorem row_far3 {w : World} {base b : Nat} {e : TypeId} {size : Nat} {v : Value} {n : Nat} {xs : List Value} (h : w.ownsRow base e size v n xs) (hb : b < base) {x' y' z' : Value} : (((w.setCell ⟨b, 0, none⟩ x').setCell ⟨b, 1, none⟩ y').setCell ⟨b, 2, none⟩ z').ownsRow base e size v n xs :=
  row_far (row_far (row_far h hb) hb) hb
theorem below3 {w0 w : World} {b : Nat} (h : Below w0.heap.size w0 w) (hb : w0.heap.size ≤ b) {x' y' z' : Value} : Below w0.heap.size w0 (((w.setCell ⟨b, 0, none⟩ x').setCell ⟨b, 1, none⟩ y').setCell ⟨b, 2, none⟩ z') :=
  Below.setCell (Below.setCell (Below.setCell h hb _) hb _) hb _
theorem three_at {w : World} {b : Nat} {x y z : Value} {t : TypeId} (h : w.heap[b]? = some (.cells #[x, y, z] t (0, 0))) : w.cell? ⟨b, 0, none⟩ = some x ∧ w.cell? ⟨b, 1, none⟩ = some y ∧ w.cell? ⟨b, 2, none⟩ = some z ∧ w.frozen? ⟨b, 0, none⟩ = false ∧ w.frozen? ⟨b, 1, none⟩ = false ∧ w.frozen? ⟨b, 2, none⟩ = false := by
  unfold World.cell? World.frozen?
  rw [h]
  simp
theorem blk_below {w w' : World} {b : Nat} {o : Obj} (h : w.heap[b]? = some o) (hb : Below w.heap.size w w') : w'.heap[b]? = some o := (hb.block b (blk_lt h)).trans h
/-- The first of some numbers. -/
theorem IntsSl.take {w : World} {an : Option Addr} {cn : Nat} {xs : List Int} (h : IntsSl w (.slice an xs.length cn) xs) (k : Nat) : IntsSl w (.slice an (min xs.length k) cn) (xs.take k) := by
  have h2 := SlAt.take h (k := min xs.length k) (Nat.min_le_left _ _)
  have e : (xs.take k).length = min xs.length k := by rw [List.length_take, Nat.min_comm]
  unfold IntsSl
  rw [e, List.map_take]
  rw [Nat.mul_one] at h2
  by_cases hk : k ≤ xs.length
  · rw [Nat.min_eq_right hk] at h2 ⊢
    exact h2
  · rw [Nat.min_eq_left (by omega)] at h2 ⊢
    rw [List.take_of_length_le (by simp)] at h2
    rw [List.take_of_length_le (by simp; omega)]
    exact h2
theorem txt5_snoc {ss : List ByteArray} {k : Nat} (hk : k < ss.length) : strsV ((ss.take (k + 1)).map (cutS 110)) = strsV ((ss.take k).map (cutS 110)) ++ [.string (cutS 110 ss[k])] := by
  rw [List.take_succ_eq_append_getElem hk, List.map_append]
  unfold strsV
  rw [List.map_append]
  rfl
end Go.Proofs.YtejleplhmkmegaaGreatDoor
/- Order: what the law cuts: a line; numbers, all floating. -/
namespace Go.Proofs.YtejleplhmkmegaaGreatDoor
set_option linter.unusedVariables false
set_option linter.unusedSimpArgs false
set_option maxRecDepth 100000
open Go.ChangeShapes Go.WideShapes Go.ChangeAt Go.RowKit Go.Fl

set_option maxHeartbeats 2000000 in
theorem fewLine_some (vd : Value) (an : Option Addr) (n cn : Nat) (s t : Int) (l : List ValD) (w : World) (hv : ValsSl w vd l) (hl : ∀ v ∈ l, v.s.size ≤ 9223372036854775807) (h1 : n ≤ cn) (h2 : cn ≤ maxLen) (h3 : an = none → cn = 0) :
    Calls Tryz.prog 10 #[.agg #[.int .i64 s, .int .i64 t, vd, .slice an n cn]] w fun e w' => ∃ v', e = .returned (.agg #[.int .i64 s, .int .i64 t, v', .slice an (min n 10) cn]) ∧ w'.ownsRow (w.heap.size + 1 + 1) 65 2 v' (valsCut l).length ((valsCut l).flatMap ValD.cells) ∧ Below w.heap.size w w' := by
  obtain ⟨ad, cd, rfl, hcd, hcd2, _⟩ := SlAt.shape hv
  have HV := hid (fun W (h : Below w.heap.size w W) => vals_any _ l W (hv.below h) hl)
  clear hv
  unfold maxLen at h2
  obtain ⟨M, hM⟩ : ∃ M, min n 10 = M := ⟨_, rfl⟩
  have hM2 : (min (n : Int) 10).toNat = M := by omega
  have hML : M ≤ n := by omega
  rw [hM]
  have HM := hid hM
  clear hM
  generalize (valsCut l).length = N at *
  generalize (valsCut l).flatMap ValD.cells = R at *
  generalize l.length = L at *
  have im := ite_min
  have q1 : (0 : Int) ≤ min (n : Int) 10 := by omega
  have q2 : min (n : Int) 10 ≤ (cn : Int) := by omega
  have q3 : min (n : Int) 10 ≤ (n : Int) := by omega
  go_enter Tryz.func10, Tryz.ntmps10
  go_wp2
  have hS0 : (fun w' : World => w'.cell? ⟨w.heap.size, 0, none⟩ = some (.int .i64 s) ∧ w'.cell? ⟨w.heap.size, 1, none⟩ = some (.int .i64 t) ∧ w'.cell? ⟨w.heap.size, 2, none⟩ = some (.slice ad L cd) ∧ w'.cell? ⟨w.heap.size, 3, none⟩ = some (.slice an n cn)) ((w.alloc (.cells #[.int .i64 s, .int .i64 t, .slice ad L cd, .slice an n cn] 37)).alloc (.cells #[.int .i64 0, .int .i64 0, .slice none 0 0, .slice none 0 0] 37)).drew := ⟨by go_simp, by go_simp, by go_simp, by go_simp⟩
  refine wp_region_some (fun w' : World => w'.cell? ⟨w.heap.size, 0, none⟩ = some (.int .i64 s) ∧ w'.cell? ⟨w.heap.size, 1, none⟩ = some (.int .i64 t) ∧ w'.cell? ⟨w.heap.size, 2, none⟩ = some (.slice ad L cd) ∧ w'.cell? ⟨w.heap.size, 3, none⟩ = some (.slice an n cn)) [14, 15] (by kernel_rfl) ?_
  (refine wpMix_take (i := 0) (v := ?_) rfl (by kernel_rfl) (fun _ _ _ h => h) (Or.inl ⟨by rfl, ?_⟩) hS0 ?_; rotate_left 1; (focus (intro w hSw; (try dsimp only at hSw); go_simp; try (with_reducible rfl))); (try simp only [Act.put, List.setIfInBounds_toArray, List.set_cons_zero, List.set_cons_succ]))
  (refine wpMix_take (i := 1) (v := ?_) rfl (by kernel_rfl) (fun _ _ _ h => h) (Or.inl ⟨by rfl, ?_⟩) hS0 ?_; rotate_left 1; (focus (intro w hSw; (try dsimp only at hSw); go_simp; try (with_reducible rfl))); (try simp only [Act.put, List.setIfInBounds_toArray, List.set_cons_zero, List.set_cons_succ]))
  (refine wpMix_take (i := 2) (v := ?_) rfl (by kernel_rfl) (fun _ _ _ h => h) (Or.inl ⟨by rfl, ?_⟩) hS0 ?_; rotate_left 1; (focus (intro w hSw; (try dsimp only at hSw); go_simp; try (with_reducible rfl))); (try simp only [Act.put, List.setIfInBounds_toArray, List.set_cons_zero, List.set_cons_succ]))
  (refine wpMix_take (i := 3) (v := ?_) rfl (by kernel_rfl) (fun _ _ _ h => h) (Or.inl ⟨by rfl, ?_⟩) hS0 ?_; rotate_left 1; (focus (intro w hSw; (try dsimp only at hSw); go_simp; try (with_reducible rfl))); (try simp only [Act.put, List.setIfInBounds_toArray, List.set_cons_zero, List.set_cons_succ]))
  (refine wpMix_take (i := 4) (v := ?_) rfl (by kernel_rfl) (fun _ _ _ h => h) (Or.inl ⟨by rfl, ?_⟩) hS0 ?_; rotate_left 1; (focus (intro w hSw; (try dsimp only at hSw); go_simp; try (with_reducible rfl))); (try simp only [Act.put, List.setIfInBounds_toArray, List.set_cons_zero, List.set_cons_succ]))
  (refine wpMix_take (i := 5) (v := ?_) rfl (by kernel_rfl) (fun _ _ _ h => h) (Or.inl ⟨by rfl, ?_⟩) hS0 ?_; rotate_left 1; (focus (intro w hSw; (try dsimp only at hSw); go_simp; try (with_reducible rfl))); (try simp only [Act.put, List.setIfInBounds_toArray, List.set_cons_zero, List.set_cons_succ]))
  (refine wpMix_take (i := 7) (v := ?_) rfl (by kernel_rfl) (fun _ _ _ h => h) (Or.inl ⟨by rfl, ?_⟩) hS0 ?_; rotate_left 1; (focus (intro w hSw; (try dsimp only at hSw); go_simp; try (with_reducible rfl))); (try simp only [Act.put, List.setIfInBounds_toArray, List.set_cons_zero, List.set_cons_succ]))
  (refine wpMix_take (i := 8) (v := ?_) rfl (by kernel_rfl) (fun _ _ _ h => h) (Or.inl ⟨by rfl, ?_⟩) hS0 ?_; rotate_left 1; (focus (intro w hSw; (try dsimp only at hSw); go_simp; try (with_reducible rfl))); (try simp only [Act.put, List.setIfInBounds_toArray, List.set_cons_zero, List.set_cons_succ]))
  (refine wpMix_take (i := 9) (v := ?_) rfl (by kernel_rfl) (fun _ _ _ h => h) (Or.inl ⟨by rfl, ?_⟩) hS0 ?_; rotate_left 1; (focus (intro w hSw; (try dsimp only at hSw); go_simp; try (with_reducible rfl))); (try simp only [Act.put, List.setIfInBounds_toArray, List.set_cons_zero, List.set_cons_succ]))
  (refine wpMix_take (i := 10) (v := ?_) rfl (by kernel_rfl) (fun _ _ _ h => h) (Or.inl ⟨by rfl, ?_⟩) hS0 ?_; rotate_left 1; (focus (intro w hSw; (try dsimp only at hSw); go_simp; try (with_reducible rfl))); (try simp only [Act.put, List.setIfInBounds_toArray, List.set_cons_zero, List.set_cons_succ]))
  (refine wpMix_take (i := 11) (v := ?_) rfl (by kernel_rfl) (fun _ _ _ h => h) (Or.inl ⟨by rfl, ?_⟩) hS0 ?_; rotate_left 1; (focus (intro w hSw; (try dsimp only at hSw); go_simp; try (with_reducible rfl))); (try simp only [Act.put, List.setIfInBounds_toArray, List.set_cons_zero, List.set_cons_succ]))
  (refine wpMix_take (i := 12) (v := ?_) rfl (by kernel_rfl) (fun _ _ _ h => h) (Or.inl ⟨by rfl, ?_⟩) hS0 ?_; rotate_left 1; (focus (intro w hSw; (try dsimp only at hSw); go_simp; try (with_reducible rfl))); (try simp only [Act.put, List.setIfInBounds_toArray, List.set_cons_zero, List.set_cons_succ]))
  (refine wpMix_take (i := 13) (v := ?_) rfl (by kernel_rfl) (fun _ _ _ h => h) (Or.inl ⟨by rfl, ?_⟩) hS0 ?_; rotate_left 1; (focus (intro w hSw; (try dsimp only at hSw); go_simp; try (with_reducible rfl))); (try simp only [Act.put, List.setIfInBounds_toArray, List.set_cons_zero, List.set_cons_succ]))
  refine wpMix_next (t := 6) (by kernel_rfl) ?_
  simp only [opsAt, List.flatMap_cons, List.flatMap_nil, List.take_succ_cons, List.take_zero, List.drop_succ_cons, List.drop_zero, List.append_nil, List.cons_append, List.nil_append]
  go_wp2_with (go_at_call 24; go_loud ((with_reducible refine (HV.out _ (by (repeat' (first | (with_reducible exact Below.refl _ _) | (with_reducible assumption) | (with_reducible refine Below.new ?_ _) | (with_reducible refine Below.alloc ?_ ?_ _) | (with_reducible refine Below.drew ?_) | (with_reducible refine Below.drewN ?_ _) | (with_reducible refine Below.setCell ?_ ?_ _) | (refine Below.step ?_ (by assumption)) | go_size)))).mono ?_); rintro e w1 ⟨v', rfl, hown, hb1⟩; obtain ⟨hc1, hf1, hk1, hz1⟩ := bcell3 hb1; (try simp only [World.size_alloc, World.size_drew] at hz1); have : w.heap.size < w1.heap.size := (by omega); have : w.heap.size + 1 < w1.heap.size := (by omega); have s0 := cell_step hS0.1 hb1; have s1 := cell_step hS0.2.1 hb1; have s2 := cell_step hS0.2.2.1 hb1; have s3 := cell_step hS0.2.2.2 hb1))
  refine ⟨⟨s0, s1, s2, s3⟩, ?_⟩
  refine wpMix_rest [14, 15] (by kernel_rfl) ?_
  simp only [opsAt, List.flatMap_cons, List.flatMap_nil, List.take_succ_cons, List.take_zero, List.drop_succ_cons, List.drop_zero, List.append_nil, List.cons_append, List.nil_append]
  obtain ⟨a1, c1, rfl⟩ : ∃ ao cap, v' = .slice ao N cap := by
    obtain ⟨ao, cap, h, _⟩ := SlAt.shape (SlAt.own hown)
    exact ⟨ao, cap, h⟩
  go_wp2
  ((show bodyPost _ _ _ _ _ _); refine bodyPost_ret (by simp only [results, Tryz.results10]; go_simp; try rfl) rfl ?_)
  refine ⟨_, rfl, ?_, by (repeat' (first | (with_reducible exact Below.refl _ _) | (with_reducible assumption) | (with_reducible refine Below.new ?_ _) | (with_reducible refine Below.alloc ?_ ?_ _) | (with_reducible refine Below.drew ?_) | (with_reducible refine Below.drewN ?_ _) | (with_reducible refine Below.setCell ?_ ?_ _) | (refine Below.step ?_ (by assumption)) | go_size))⟩
  repeat (refine row_far ?_ (by omega))
  exact hown.base_le (by simp)
theorem info_num : (Tryz.prog.info? 63).map (fun i => (i.zero, i.size, i.bytes)) = some (some (.agg #[.bool false, .int .i64 0, .float .f64 0]), 3, 24) := by kernel_rfl
/-- Numbers, all floating. -/
def intN (v : NumD) : NumD := ⟨0, true, v.f⟩
theorem nums_one (l : List NumD) : ∀ u ∈ l.flatMap NumD.cells, u.oneCell' = true := by
  intro u hu
  obtain ⟨x, _, hx⟩ := List.mem_flatMap.1 hu
  simp [NumD.cells] at hx
  rcases hx with rfl | rfl | rfl <;> rfl
set_option maxHeartbeats 2000000 in
theorem ints18_any (v : Value) (l : List NumD) (w : World) (hv : NumsSl w v l) (hl : l.length ≤ 1000000) :
    Calls Tryz.prog 11 #[v] w fun e w' => ∃ v', e = .returned v' ∧ w'.ownsRow w.heap.size 63 3 v' l.length ((l.map intN).flatMap NumD.cells) ∧ Below w.heap.size w w' := by
  obtain ⟨i0, hi, hiz0, hiz1, hiz2⟩ := info_parts info_num
  obtain ⟨ao, cap, rfl, h1, h2, h3, hA⟩ := NumsSl.parts hv
  have HA := hid hA
  have HT : Hid (∀ k (hk : k < l.length), ((l.take (k + 1)).map intN).flatMap NumD.cells = ((l.take k).map intN).flatMap NumD.cells ++ [.bool true, .int .i64 0, .float .f64 l[k].f]) := fun k hk => by
    rw [List.take_succ_eq_append_getElem hk, List.map_append, List.flatMap_append]
    rfl
  obtain ⟨R, hR⟩ : ∃ R, (l.map intN).flatMap NumD.cells = R := ⟨_, rfl⟩
  have HE : Hid (((l.take l.length).map intN).flatMap NumD.cells = R) := by unfold Hid; rw [List.take_length]; exact hR
  rw [hR]
  obtain ⟨L, hL⟩ : ∃ L, l.length = L := ⟨_, rfl⟩
  have HL := hid hL
  rw [hL] at HE h1 hl ⊢
  clear hR hA hv hL
  unfold maxLen at h2
  go_enter Tryz.func11, Tryz.ntmps11
  go_wp2
  go_loopw [3, 4] (fun o i wr => ∃ k : Nat, k ≤ L ∧ i = .int .i64 k ∧ wr.ownsRow w.heap.size 63 3 o k (((l.take k).map intN).flatMap NumD.cells) ∧ Below w.heap.size w wr) (fun _ i _ => L - (intOf i).toNat)
  case atStart => exact ⟨0, Nat.zero_le _, rfl, by simpa using World.ownsRow_nil _ _ _ _, Below.refl _ _⟩
  case round =>
    obtain ⟨k, hk, rfl, hown, hbel⟩ := hrel
    have g1 : (0 : Int) ≤ (k : Int) := Int.natCast_nonneg _
    by_cases hkN : k < L
    · have hlen : k < l.length := by rw [HL.out]; omega
      obtain ⟨b, off, rfl, hc⟩ := HA.out (by omega)
      obtain ⟨c1, c2, c3⟩ := hc k hlen
      have d3 := cell_step c3 hbel
      have zW := hbel.size
      have ht := HT.out k hlen
      generalize l[k].f = f at *
      have HT2 := hid ht; have HB := hid hbel; have HO := hid hown
      clear ht hbel hown hc c1 c2 c3
      have g2 : (k : Int) < (L : Int) := by omega
      go_wp2_with (at_builtin; go_loud (refine wpList_append_sl _ rfl _ _ 35 rfl w.heap.size 63 i0 (.agg #[.bool false, .int .i64 0, .float .f64 0]) 3 24 Tryz.underlying35 hi hiz0 hiz1 hiz2 rfl (by decide) _ k _ rfl (HO.out.alloc _) (.slice (some ⟨wr.heap.size, 0, none⟩) 1 1) 1 [.bool true, .int .i64 0, .float .f64 f] rfl (SlAt.new wr #[.bool true, .int .i64 0, .float .f64 f] 63) (by simp [Value.oneCell']) (by unfold maxLen; omega) (by omega) (by simp; omega) ?_); intro v1 w1 hown1 hgrow1 hb1)
      go_roundw
      case rel => exact ⟨k + 1, hkN, by go_num, by rw [HT2.out]; exact hown1, own_below (HO.out.alloc _) hgrow1 (by have := HB.out; (repeat' (first | (with_reducible exact Below.refl _ _) | (with_reducible assumption) | (with_reducible refine Below.new ?_ _) | (with_reducible refine Below.alloc ?_ ?_ _) | (with_reducible refine Below.drew ?_) | (with_reducible refine Below.drewN ?_ _) | (with_reducible refine Below.setCell ?_ ?_ _) | (refine Below.step ?_ (by assumption)) | go_size))) (Nat.le_refl _)⟩
      case measure => simp [intOf]; omega
    · obtain rfl : k = L := by omega
      rw [HE.out] at hown
      have HO := hid hown; have HB := hid hbel
      clear hown hbel
      go_wp2
      go_ret
      exact ⟨_, rfl, HO.out, HB.out⟩
end Go.Proofs.YtejleplhmkmegaaGreatDoor
/- Order: what the law cuts: names. -/
namespace Go.Proofs.YtejleplhmkmegaaGreatDoor
set_option linter.unusedVariables false
set_option linter.unusedSimpArgs false
set_option maxRecDepth 100000
open Go.ChangeShapes Go.WideShapes Go.ChangeAt Go.RowKit Go.Fl

theorem txtc_snoc (c : Nat) {ss : List ByteArray} {k : Nat} (hk : k < ss.length) : strsV ((ss.take (k + 1)).map (cutS c)) = strsV ((ss.take k).map (cutS c)) ++ [.string (cutS c ss[k])] := by
  rw [List.take_succ_eq_append_getElem hk, List.map_append]
  unfold strsV
  rw [List.map_append]
  rfl
set_option maxHeartbeats 2000000 in
theorem names15_any (vd : Value) (ss : List ByteArray) (w : World) (hd : StrsSl w vd ss) (td : ∀ s ∈ ss, s.size ≤ 9223372036854775807) :
    Calls Tryz.prog 22 #[vd] w fun e w' => ∃ v1, e = .returned v1 ∧ w'.ownsRow w.heap.size 9 1 v1 (min ss.length 10) (strsV ((ss.take 10).map (cutS 30))) ∧ Below w.heap.size w w' := by
  obtain ⟨i0, hi, hiz0, hiz1, hiz2⟩ := info_parts info_string
  have HD := hid hd
  have HZD := hid (fun i (hi : i < ss.length) => td ss[i] (List.getElem_mem hi))
  obtain ⟨ad, cd, rfl, hcd, hcd2, _⟩ := SlAt.shape hd
  obtain ⟨LD, hLD⟩ : ∃ L, ss.length = L := ⟨_, rfl⟩
  have HLD := hid hLD
  obtain ⟨N, hN⟩ : ∃ N, min LD 10 = N := ⟨_, rfl⟩
  have HCN : Hid ((N = LD ∨ N = 10) ∧ N ≤ LD ∧ N ≤ 10) := by unfold Hid; omega
  obtain ⟨R, hR⟩ : ∃ R, strsV ((ss.take 10).map (cutS 30)) = R := ⟨_, rfl⟩
  have HR : Hid (strsV ((ss.take N).map (cutS 30)) = R) := by
    unfold Hid
    rw [← hR, ← hN]
    by_cases h : LD ≤ 10
    · rw [List.take_of_length_le (by omega), List.take_of_length_le (by omega)]
    · rw [Nat.min_eq_right (by omega)]
  rw [hR]
  rw [hLD] at hcd ⊢
  rw [hN]
  clear hd td hLD hN hR
  unfold maxLen at hcd2
  go_enter Tryz.func22, Tryz.ntmps22
  go_wp2
  go_loopw [3, 4] (fun o i wr => ∃ k, k ≤ N ∧ i = .int .i64 (k : Nat) ∧ wr.ownsRow w.heap.size 9 1 o k (strsV ((ss.take k).map (cutS 30))) ∧ Below w.heap.size w wr) (fun _ i _ => N - (intOf i).toNat)
  case atStart => exact ⟨0, Nat.zero_le _, rfl, World.ownsRow_nil _ _ _ _, Below.refl _ _⟩
  case round =>
    obtain ⟨k, hk, rfl, hown, hbel⟩ := hrel
    have g1 : (0 : Int) ≤ (k : Int) := Int.natCast_nonneg _
    by_cases hkN : k < N
    · have hkL : k < LD := by have := HCN.out; omega
      have hkn : k < 10 := by have := HCN.out; omega
      have hlen : k < ss.length := by rw [HLD.out]; exact hkL
      obtain ⟨b, off, rfl, hcell⟩ := (SlAt.parts HD.out).2.2.2.2 (by simp; omega)
      have ck := hcell k (.string ss[k]) (by rw [List.getElem?_map, List.getElem?_eq_getElem hlen]; rfl)
      have dk := cell_step ck hbel
      have hz := HZD.out k hlen
      have HT := hid (txtc_snoc 30 hlen)
      generalize ss[k] = s at *
      have z3 : b < wr.heap.size := World.block_lt_of_cell? _ _ dk
      have zW := hbel.size
      have HB := hid hbel; have HO := hid hown
      clear hcell ck hbel hown
      have g2 : (k : Int) < (LD : Int) := by omega
      have im := ite_min
      have q1 : (0 : Int) ≤ min (s.size : Int) 30 := by omega
      have q2 : min (s.size : Int) 30 ≤ (s.size : Int) := by omega
      have q3 : s.extract 0 (min (s.size : Int) 30).toNat = cutS 30 s := cutS_is 30 s
      go_wp2
      have hS0 : (fun w' : World => w'.cell? ⟨b, off + k, none⟩ = some (.string s)) wr.drew := dk
      refine wp_region_some (fun w' : World => w'.cell? ⟨b, off + k, none⟩ = some (.string s)) [13, 14] (by kernel_rfl) ?_
      (refine wpMix_take (i := 0) (v := ?_) rfl (by kernel_rfl) (fun _ _ _ h => h) (Or.inl ⟨by rfl, ?_⟩) hS0 ?_; rotate_left 1; (focus (intro w hSw; (try dsimp only at hSw); go_simp; try (with_reducible rfl))); (try simp only [Act.put, List.setIfInBounds_toArray, List.set_cons_zero, List.set_cons_succ]))
      (refine wpMix_take (i := 1) (v := ?_) rfl (by kernel_rfl) (fun _ _ _ h => h) (Or.inl ⟨by rfl, ?_⟩) hS0 ?_; rotate_left 1; (focus (intro w hSw; (try dsimp only at hSw); go_simp; try (with_reducible rfl))); (try simp only [Act.put, List.setIfInBounds_toArray, List.set_cons_zero, List.set_cons_succ]))
      (refine wpMix_take (i := 2) (v := ?_) rfl (by kernel_rfl) (fun _ _ _ h => h) (Or.inl ⟨by rfl, ?_⟩) hS0 ?_; rotate_left 1; (focus (intro w hSw; (try dsimp only at hSw); go_simp; try (with_reducible rfl))); (try simp only [Act.put, List.setIfInBounds_toArray, List.set_cons_zero, List.set_cons_succ]))
      (refine wpMix_take (i := 3) (v := ?_) rfl (by kernel_rfl) (fun _ _ _ h => h) (Or.inl ⟨by rfl, ?_⟩) hS0 ?_; rotate_left 1; (focus (intro w hSw; (try dsimp only at hSw); go_simp; try (with_reducible rfl))); (try simp only [Act.put, List.setIfInBounds_toArray, List.set_cons_zero, List.set_cons_succ]))
      (refine wpMix_take (i := 4) (v := ?_) rfl (by kernel_rfl) (fun _ _ _ h => h) (Or.inl ⟨by rfl, ?_⟩) hS0 ?_; rotate_left 1; (focus (intro w hSw; (try dsimp only at hSw); go_simp; try (with_reducible rfl))); (try simp only [Act.put, List.setIfInBounds_toArray, List.set_cons_zero, List.set_cons_succ]))
      (refine wpMix_take (i := 5) (v := ?_) rfl (by kernel_rfl) (fun _ _ _ h => h) (Or.inl ⟨by rfl, ?_⟩) hS0 ?_; rotate_left 1; (focus (intro w hSw; (try dsimp only at hSw); go_simp; try (with_reducible rfl))); (try simp only [Act.put, List.setIfInBounds_toArray, List.set_cons_zero, List.set_cons_succ]))
      (refine wpMix_take (i := 6) (v := ?_) rfl (by kernel_rfl) (fun _ _ _ h => h) (Or.inl ⟨by rfl, ?_⟩) hS0 ?_; rotate_left 1; (focus (intro w hSw; (try dsimp only at hSw); go_simp; try (with_reducible rfl))); (try simp only [Act.put, List.setIfInBounds_toArray, List.set_cons_zero, List.set_cons_succ]))
      (refine wpMix_take (i := 7) (v := ?_) rfl (by kernel_rfl) (fun _ _ _ h => h) (Or.inl ⟨by rfl, ?_⟩) hS0 ?_; rotate_left 1; (focus (intro w hSw; (try dsimp only at hSw); go_simp; try (with_reducible rfl))); (try simp only [Act.put, List.setIfInBounds_toArray, List.set_cons_zero, List.set_cons_succ]))
      (refine wpMix_take (i := 8) (v := ?_) rfl (by kernel_rfl) (fun _ _ _ h => h) (Or.inl ⟨by rfl, ?_⟩) hS0 ?_; rotate_left 1; (focus (intro w hSw; (try dsimp only at hSw); go_simp; try (with_reducible rfl))); (try simp only [Act.put, List.setIfInBounds_toArray, List.set_cons_zero, List.set_cons_succ]))
      (refine wpMix_take (i := 9) (v := ?_) rfl (by kernel_rfl) (fun _ _ _ h => h) (Or.inl ⟨by rfl, ?_⟩) hS0 ?_; rotate_left 1; (focus (intro w hSw; (try dsimp only at hSw); go_simp; try (with_reducible rfl))); (try simp only [Act.put, List.setIfInBounds_toArray, List.set_cons_zero, List.set_cons_succ]))
      (refine wpMix_take (i := 10) (v := ?_) rfl (by kernel_rfl) (fun _ _ _ h => h) (Or.inl ⟨by rfl, ?_⟩) hS0 ?_; rotate_left 1; (focus (intro w hSw; (try dsimp only at hSw); go_simp; try (with_reducible rfl))); (try simp only [Act.put, List.setIfInBounds_toArray, List.set_cons_zero, List.set_cons_succ]))
      (refine wpMix_take (i := 11) (v := ?_) rfl (by kernel_rfl) (fun _ _ _ h => h) (Or.inl ⟨by rfl, ?_⟩) hS0 ?_; rotate_left 1; (focus (intro w hSw; (try dsimp only at hSw); go_simp; try (with_reducible rfl))); (try simp only [Act.put, List.setIfInBounds_toArray, List.set_cons_zero, List.set_cons_succ]))
      refine wpMix_next (t := 12) (by kernel_rfl) ?_
      simp only [opsAt, List.flatMap_cons, List.flatMap_nil, List.take_succ_cons, List.take_zero, List.drop_succ_cons, List.drop_zero, List.append_nil, List.cons_append, List.nil_append]
      go_wp2
      refine ⟨by go_simp, ?_⟩
      refine wpMix_rest [13, 14] (by kernel_rfl) ?_
      simp only [opsAt, List.flatMap_cons, List.flatMap_nil, List.take_succ_cons, List.take_zero, List.drop_succ_cons, List.drop_zero, List.append_nil, List.cons_append, List.nil_append]
      go_wp2_with (at_builtin; go_loud (refine wpList_append_sl _ rfl _ _ 23 rfl w.heap.size 9 i0 (.string { data := #[] }) 1 16 Tryz.underlying23 hi hiz0 hiz1 hiz2 rfl (by decide) _ k _ rfl ((HO.out.alloc _).drew) (.slice (some ⟨wr.heap.size, 0, none⟩) 1 1) 1 [.string (cutS 30 s)] rfl ((SlAt.new wr #[.string (cutS 30 s)] 9).drew) (by simp [Value.oneCell']) (by unfold maxLen; omega) (by omega) (by simp; omega) ?_); intro v1 w1 hown1 hgrow1 hb1)
      go_roundw
      case rel => exact ⟨k + 1, hkN, by go_num, by rw [HT.out]; exact hown1, own_below ((HO.out.alloc _).drew) hgrow1 (by have := HB.out; (repeat' (first | (with_reducible exact Below.refl _ _) | (with_reducible assumption) | (with_reducible refine Below.new ?_ _) | (with_reducible refine Below.alloc ?_ ?_ _) | (with_reducible refine Below.drew ?_) | (with_reducible refine Below.drewN ?_ _) | (with_reducible refine Below.setCell ?_ ?_ _) | (refine Below.step ?_ (by assumption)) | go_size))) (Nat.le_refl _)⟩
      case measure => simp [intOf]; omega
    · obtain rfl : k = N := by omega
      rw [HR.out] at hown
      have hex : LD = k ∨ (k < LD ∧ k = 10) := by have := HCN.out; omega
      have HEX := hid hex; have HO := hid hown; have HB := hid hbel
      clear hex hown hbel
      rcases HEX.out with h | ⟨h, h10⟩
      · subst h
        by_cases h10 : LD = 10
        · subst h10
          go_wp2
          go_ret
          exact ⟨_, rfl, HO.out, HB.out⟩
        · go_wp2
          go_ret
          exact ⟨_, rfl, HO.out, HB.out⟩
      · subst h10
        go_wp2
        go_ret
        exact ⟨_, rfl, HO.out, HB.out⟩
end Go.Proofs.YtejleplhmkmegaaGreatDoor
/- Order: filters as they lie in memory. -/
namespace Go.Proofs.YtejleplhmkmegaaGreatDoor
set_option linter.unusedVariables false
set_option linter.unusedSimpArgs false
set_option maxRecDepth 100000
open Go.ChangeShapes Go.WideShapes Go.ChangeAt Go.RowKit Go.Fl

/-- Elements that lie in blocks of a kind. -/
def SlS (S : Nat → Prop) (w : World) (v : Value) (n size : Nat) (cs : List Value) : Prop :=
  cs.length = n * size ∧ ∃ ao cap, v = .slice ao n cap ∧ n ≤ cap ∧ cap ≤ maxLen ∧ (ao = none → cap = 0) ∧
    (0 < cs.length → ∃ b off, ao = some ⟨b, off, none⟩ ∧ S b ∧ ∀ j u, cs[j]? = some u → w.cell? ⟨b, off + j, none⟩ = some u)
theorem SlS.sl {S : Nat → Prop} {w : World} {v : Value} {n size : Nat} {cs : List Value} (h : SlS S w v n size cs) : SlAt w v n size cs := by
  obtain ⟨h0, ao, cap, rfl, h1, h2, h3, h⟩ := h
  refine ⟨h0, ao, cap, rfl, h1, h2, h3, fun hl => ?_⟩
  obtain ⟨b, off, rfl, _, hc⟩ := h hl
  exact ⟨b, off, rfl, hc⟩
theorem SlS.keep {S T : Nat → Prop} {w w' : World} {v : Value} {n size : Nat} {cs : List Value} (h : SlS S w v n size cs) (hST : ∀ b, S b → T b) (hk : ∀ b, S b → b < w.heap.size → w'.heap[b]? = w.heap[b]?) : SlS T w' v n size cs := by
  obtain ⟨h0, ao, cap, rfl, h1, h2, h3, h⟩ := h
  refine ⟨h0, ao, cap, rfl, h1, h2, h3, fun hl => ?_⟩
  obtain ⟨b, off, rfl, hs, hc⟩ := h hl
  refine ⟨b, off, rfl, hST b hs, fun j u hj => ?_⟩
  have hx := hc j u hj
  rw [← hx]
  simp only [World.cell?, hk b hs (World.block_lt_of_cell? _ _ hx)]
theorem SlS.own {w : World} {base : Nat} {e : TypeId} {size : Nat} {v : Value} {n : Nat} {xs : List Value} (h : w.ownsRow base e size v n xs) : SlS (fun b => v.ownBlock = some b) w v n size xs := by
  have hk := h
  refine ⟨h.1, ?_⟩
  rcases h.2 with ⟨rfl, h0⟩ | ⟨g, cap, cur, rfl, _, _, h3, h4, _, _⟩
  · subst h0
    exact ⟨none, 0, rfl, Nat.le_refl _, by simp, fun _ => rfl, fun hl => absurd h.1 (by simp; intro e; rw [e] at hl; simp at hl)⟩
  · refine ⟨_, cap, rfl, h3, h4, (fun h => by cases h), fun hl => ⟨g, 0, rfl, rfl, fun j u hj => ?_⟩⟩
    have hjl : j < xs.length := (List.getElem?_eq_some_iff.1 hj).1
    rw [show 0 + j = j from Nat.zero_add j, hk.cellAt j (by rw [← h.1]; exact hjl), hj]
/-- A filter. -/
inductive FilD where
  | mk (kind : Int) (name : ByteArray) (words : List ByteArray) (fr till : Int) (l : List FilD)
def FilD.l : FilD → List FilD | .mk _ _ _ _ _ l => l
def FilD.words : FilD → List ByteArray | .mk _ _ ws _ _ _ => ws
/-- A filter as it lies in memory, in blocks of a kind: so deep at most. -/
def FilS (S : Nat → Prop) (w : World) : Nat → List Value → FilD → Prop
  | 0, _, _ => False
  | d + 1, cs, .mk k n ws fr till l => ∃ (vw vl : Value) (rows : List (List Value)), cs = [.int .i64 k, .string n, vw, .int .i64 fr, .int .i64 till, vl] ∧ n.size ≤ 9223372036854775807 ∧ SlS S w vw ws.length 1 (strsV ws) ∧ (∀ s ∈ ws, s.size ≤ 9223372036854775807) ∧
      rows.length = l.length ∧ (∀ r ∈ rows, r.length = 6) ∧ SlS S w vl l.length 6 rows.flatten ∧ ∀ i (hi : i < l.length) r, rows[i]? = some r → FilS S w d r l[i]
theorem FilS.keep {S T : Nat → Prop} {w w' : World} (hST : ∀ b, S b → T b) (hk : ∀ b, S b → b < w.heap.size → w'.heap[b]? = w.heap[b]?) : ∀ {d : Nat} {cs : List Value} {f : FilD}, FilS S w d cs f → FilS T w' d cs f
  | 0, _, _, h => by simp [FilS] at h
  | d + 1, cs, .mk k n ws fr till l, h => by
    unfold FilS at h ⊢
    obtain ⟨vw, vl, rows, h1, h2, h3, h4, h5, h6, h7, h8⟩ := h
    exact ⟨vw, vl, rows, h1, h2, h3.keep hST hk, h4, h5, h6, h7.keep hST hk, fun i hi r hr => (h8 i hi r hr).keep hST hk⟩
theorem FilS.below {S : Nat → Prop} {w w' : World} {d : Nat} {cs : List Value} {f : FilD} (h : FilS S w d cs f) (hb : Below w.heap.size w w') : FilS S w' d cs f := h.keep (fun _ h => h) (fun b _ hl => hb.block b hl)
theorem flatten_at {rows : List (List Value)} (h6 : ∀ r ∈ rows, r.length = 6) : ∀ {i : Nat} {r : List Value}, rows[i]? = some r → ∀ {j : Nat}, j < 6 → rows.flatten[i * 6 + j]? = r[j]? := by
  intro i r hr j hj
  obtain ⟨hi, he⟩ := List.getElem?_eq_some_iff.1 hr
  have e : rows.flatten = rows.flatMap id := by simp [List.flatMap]
  clear hr
  induction rows generalizing i with
  | nil => simp at hi
  | cons x l ih =>
    have hx := h6 x (by simp)
    cases i with
    | zero =>
      simp only [List.getElem_cons_zero] at he
      subst he
      rw [List.flatten_cons, List.getElem?_append_left (by omega), Nat.zero_mul, Nat.zero_add]
    | succ i =>
      rw [List.flatten_cons, List.getElem?_append_right (by rw [hx, Nat.succ_mul]; omega), hx, show (i + 1) * 6 + j - 6 = i * 6 + j by rw [Nat.succ_mul]; omega]
      exact ih (fun r hr => h6 r (by simp [hr])) (by simpa using hi) (by simpa using he) (by simp [List.flatMap])
/-- What a filter is cut to. -/
def cutF : Nat → FilD → FilD
  | 0, .mk k n ws fr till _ => .mk k (cutS 30 n) ((ws.take 10).map (cutS 110)) fr till []
  | d + 1, .mk k n ws fr till l => .mk k (cutS 30 n) ((ws.take 10).map (cutS 110)) fr till ((l.take 10).map (cutF d))
theorem info_filter : (Tryz.prog.info? 29).map (fun i => (i.zero, i.size, i.bytes)) = some (some (.agg #[.int .i64 0, .string { data := #[] }, .slice none 0 0, .int .i64 0, .int .i64 0, .slice none 0 0]), 6, 88) := by kernel_rfl
end Go.Proofs.YtejleplhmkmegaaGreatDoor
