/- Schemas: the program's 'Encode'. -/
import Derived.Test.YtdgeinipdphoeaaSchN
import Derived.Test.YtdgeinipdphoeaaBldS
import Derived.Test.YtdgeinipdphoeaaVarE
namespace Go.Proofs.Ytdgeinipdphoeaa
set_option linter.unusedVariables false
set_option linter.unusedSimpArgs false
set_option maxRecDepth 100000
open Go.ChangeShapes Go.WideShapes Go.ChangeAt Go.RowKit

/-- A value's bytes. -/
def valE (v : ValD) : List UInt8 := putB (if v.nl then 0 else v.s.size + 1) ++ v.s.data.toList
def numE (n : Int) : List UInt8 := putB (turnV n).toNat
/-- A row's bytes. -/
def rowE (t : Int) (l : List ValD) (xs : List Int) : List UInt8 := putB t.toNat ++ l.flatMap valE ++ xs.flatMap numE
theorem valE_le (v : ValD) (h : v.s.size ≤ 100) : (valE v).length ≤ 110 := by
  unfold valE
  have : (putB (if v.nl then 0 else v.s.size + 1)).length ≤ 10 := putB_ten (by split <;> omega)
  simp only [List.length_append, Array.length_toList]
  show _ + v.s.size ≤ _
  omega
theorem vals_le (l : List ValD) (h : ∀ v ∈ l, v.s.size ≤ 100) : (l.flatMap valE).length ≤ l.length * 110 := by
  induction l with
  | nil => simp
  | cons v l ih =>
    have h1 := valE_le v (h v (by simp))
    have h2 := ih (fun u hu => h u (by simp [hu]))
    simp only [List.flatMap_cons, List.length_append, List.length_cons]
    omega
theorem nums_le (xs : List Int) (h : ∀ n ∈ xs, -9223372036854775808 ≤ n ∧ n ≤ 9223372036854775807) : (xs.flatMap numE).length ≤ xs.length * 10 := by
  induction xs with
  | nil => simp
  | cons n xs ih =>
    have h1 : (numE n).length ≤ 10 := putB_ten (by have := turnV_is (h n (by simp)); omega)
    have h2 := ih (fun u hu => h u (by simp [hu]))
    simp only [List.flatMap_cons, List.length_append, List.length_cons]
    omega
theorem flat_snoc {α β : Type} (f : α → List β) {l : List α} {k : Nat} (hk : k < l.length) : (l.take (k + 1)).flatMap f = (l.take k).flatMap f ++ f l[k] := by
  rw [List.take_succ_eq_append_getElem hk, List.flatMap_append]
  simp

set_option maxHeartbeats 1000000 in
theorem encode_bad (vd vm vr vn : Value) (ds ms : List ByteArray) (g t : Int) (l : List ValD) (xs : List Int) (w : World) (hd : StrsSl w vd ds) (hm : StrsSl w vm ms) (td : Texts ds) (tm : Texts ms) (hr : ValsSl w vr l) (tr : Vals l) (hn : IntsSl w vn xs) (hf : fitsS ds ms g t l xs.length = false) :
    Calls Try.prog 43 #[.agg #[vd, vm, .int .i64 g], .agg #[.int .i64 t, vr, vn]] w fun e w' => e = .returned (.tuple #[.string { data := #[] }, .int .i64 (if rightS ds ms g = true then 101 else 100)]) ∧ Below w.heap.size w w' := by
  have HR := hid (fun W (h : Below w.heap.size w W) => right_any vd vm ds ms g W (hd.below h) (hm.below h) td tm)
  have HF := hid (fun W (h : Below w.heap.size w W) => fits_any vd vm vr vn ds ms g t l xs.length _ W (hd.below h) (hm.below h) td tm (hr.below h) tr (hn.below h))
  rw [hf] at HF
  obtain ⟨ad, cd, rfl, _, _, _⟩ := SlAt.shape hd
  obtain ⟨am, cm, rfl, _, _, _⟩ := SlAt.shape hm
  obtain ⟨ar, cr, rfl, _, _, _⟩ := SlAt.shape hr
  obtain ⟨an, cn, rfl, _, _, _⟩ := SlAt.shape hn
  clear hd hm hr hn hf
  generalize ds.length = nd at *
  generalize ms.length = nm at *
  generalize l.length = nl at *
  generalize xs.length = nx at *
  generalize rightS ds ms g = rs at *
  cases rs with
  | false =>
    have HE : Hid ((if false = true then (101 : Int) else 100) = 100) := rfl
    rw [HE.out]
    go_enter Try.func43, Try.ntmps43
    go_wp2_with (go_at_call 21; ((with_reducible refine (HR.out _ (by (repeat' (first | (with_reducible exact Below.refl _ _) | (with_reducible assumption) | (with_reducible refine Below.new ?_ _) | (with_reducible refine Below.alloc ?_ ?_ _) | (with_reducible refine Below.drew ?_) | (with_reducible refine Below.drewN ?_ _) | (with_reducible refine Below.setCell ?_ ?_ _) | (refine Below.step ?_ (by assumption)) | go_size)))).mono ?_); rintro e w1 ⟨rfl, hb1⟩; obtain ⟨hc1, hf1, hk1, hz1⟩ := bcell3 hb1; (try simp only [World.size_alloc, World.size_drew] at hz1); have : w.heap.size < w1.heap.size := (by omega); have : w.heap.size + 1 < w1.heap.size := (by omega)))
    go_ret2
    exact ⟨rfl, by (repeat' (first | (with_reducible exact Below.refl _ _) | (with_reducible assumption) | (with_reducible refine Below.new ?_ _) | (with_reducible refine Below.alloc ?_ ?_ _) | (with_reducible refine Below.drew ?_) | (with_reducible refine Below.drewN ?_ _) | (with_reducible refine Below.setCell ?_ ?_ _) | (refine Below.step ?_ (by assumption)) | go_size))⟩
  | true =>
    have HE : Hid ((if true = true then (101 : Int) else 100) = 101) := rfl
    rw [HE.out]
    go_enter Try.func43, Try.ntmps43
    go_wp2_with (first
      | (go_at_call 21; ((with_reducible refine (HR.out _ (by (repeat' (first | (with_reducible exact Below.refl _ _) | (with_reducible assumption) | (with_reducible refine Below.new ?_ _) | (with_reducible refine Below.alloc ?_ ?_ _) | (with_reducible refine Below.drew ?_) | (with_reducible refine Below.drewN ?_ _) | (with_reducible refine Below.setCell ?_ ?_ _) | (refine Below.step ?_ (by assumption)) | go_size)))).mono ?_); rintro e w1 ⟨rfl, hb1⟩; obtain ⟨hc1, hf1, hk1, hz1⟩ := bcell3 hb1; (try simp only [World.size_alloc, World.size_drew] at hz1); have : w.heap.size < w1.heap.size := (by omega); have : w.heap.size + 1 < w1.heap.size := (by omega)))
      | (go_at_call 23; ((with_reducible refine (HF.out _ (by (repeat' (first | (with_reducible exact Below.refl _ _) | (with_reducible assumption) | (with_reducible refine Below.new ?_ _) | (with_reducible refine Below.alloc ?_ ?_ _) | (with_reducible refine Below.drew ?_) | (with_reducible refine Below.drewN ?_ _) | (with_reducible refine Below.setCell ?_ ?_ _) | (refine Below.step ?_ (by assumption)) | go_size)))).mono ?_); rintro e w2 ⟨rfl, hb2⟩)))
    go_ret2
    exact ⟨rfl, by (repeat' (first | (with_reducible exact Below.refl _ _) | (with_reducible assumption) | (with_reducible refine Below.new ?_ _) | (with_reducible refine Below.alloc ?_ ?_ _) | (with_reducible refine Below.drew ?_) | (with_reducible refine Below.drewN ?_ _) | (with_reducible refine Below.setCell ?_ ?_ _) | (refine Below.step ?_ (by assumption)) | go_size))⟩
end Go.Proofs.Ytdgeinipdphoeaa
