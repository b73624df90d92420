/- A span's buckets: the plain list, and the reference's loop that appends it. -/
import Derived.Test.YtekmcomddaoljaaGrainC
namespace Go.Proofs.Ytekmcomddaoljaa
set_option linter.unusedVariables false
set_option linter.unusedSimpArgs false
open Go.ChangeShapes Go.WideShapes Go.ChangeAt Go.RowKit

/-- How many multiples of g lie in the span from f on, below t. -/
def bucketsN (f t g : Int) : Nat := ((t - f + g - 1) / g).toNat
def multsL (f g : Int) (n : Nat) : List Int := (List.range n).map fun (k : Nat) => f + (k : Int) * g
def bucketsOk (f t g : Int) : Bool := fitsB f t g && decide (bucketsN f t g ≤ 1000)
def bucketsL (f t g : Int) : List Int := if bucketsOk f t g = true then multsL f g (bucketsN f t g) else []
def bucketsE (f t g : Int) : Int := if bucketsOk f t g = true then 0 else 110

theorem fitsB_iff (f t g : Int) : fitsB f t g = true ↔ (0 ≤ f ∧ f ≤ t ∧ t ≤ 1000000000001) ∧ (1 ≤ g ∧ g ≤ 1000000000) ∧ f % g = 0 ∧ (t = 1000000000001 ∨ t % g = 0) := by
  simp [fitsB, rightB, isGrainB, and_assoc]

theorem multsL_succ (f g : Int) (n : Nat) : multsL f g (n + 1) = multsL f g n ++ [f + (n : Int) * g] := by simp [multsL, List.range_succ]
theorem multsL_length (f g : Int) (n : Nat) : (multsL f g n).length = n := by simp [multsL]

/-- The multiple number k lies below t just if k is below their number. -/
theorem bucket_lt {f t g : Int} (h1 : f ≤ t) (h2 : 1 ≤ g) (k : Nat) : f + (k : Int) * g < t ↔ k < bucketsN f t g := by
  unfold bucketsN
  have e : (k : Int) < (t - f + g - 1) / g ↔ (k : Int) + 1 ≤ (t - f + g - 1) / g := by omega
  rw [show (k < ((t - f + g - 1) / g).toNat) ↔ (k : Int) < (t - f + g - 1) / g from by omega, e, Int.le_ediv_iff_mul_le (by omega), Int.add_mul]
  omega

theorem info_i64 : (Try.prog.info? 2).map (fun i => (i.zero, i.size, i.bytes)) = some (some (.int .i64 0), 1, 8) := by kernel_rfl

set_option maxHeartbeats 1000000 in
theorem refBuckets_any (f t g : Int) (w : World) :
    Calls Try.prog 37 #[.agg #[.int .i64 f, .int .i64 t], .int .i64 g] w fun e w' => ∃ v, e = .returned (.tuple #[v, .int .i64 (bucketsE f t g)]) ∧
      w'.ownsRow w.heap.size 2 1 v (bucketsL f t g).length ((bucketsL f t g).map (Value.int .i64)) ∧ (v = .slice none 0 0 ↔ bucketsL f t g = []) ∧ Below w.heap.size w w' := by
  cases h1 : fitsB f t g with
  | true =>
    have h1' := (fitsB_iff f t g).1 h1
    by_cases h2 : bucketsN f t g ≤ 1000
    · have hL : bucketsL f t g = multsL f g (bucketsN f t g) := by simp [bucketsL, bucketsOk, h1, h2]
      have hE : bucketsE f t g = 0 := by simp [bucketsE, bucketsOk, h1, h2]
      have hq : 0 ≤ (t - f + g - 1) / g := Int.ediv_nonneg (by omega) (by omega)
      have hq2 : (t - f + g - 1) / g ≤ 1000 := by unfold bucketsN at h2; omega
      rw [hL, hE, multsL_length]
      have HN := hid (fun k : Nat => bucket_lt (f := f) (t := t) (g := g) (by omega) (by omega) k)
      obtain ⟨N, hN⟩ : ∃ N, bucketsN f t g = N := ⟨_, rfl⟩
      rw [hN] at h2 HN ⊢
      clear hN
      have H1 := hid h1; clear h1 hL hE
      obtain ⟨i0, hi, hiz0, hiz1, hiz2⟩ := info_parts info_i64
      go_enter Try.func37, Try.ntmps37
      go_wp2_with (go_at_call 28; ((with_reducible refine (refFits_any _ _ _ _).mono ?_); rintro e w1 ⟨rfl, hb1⟩; rw [H1.out]; obtain ⟨hc1, hf1, hk1, hz1⟩ := bcell3 hb1; (try simp only [World.size_alloc] at hz1); have : w.heap.size < w1.heap.size := (by omega)))
      clear hq hq2
      go_loopw [6, 7] (fun v tt wr => ∃ k : Nat, k ≤ N ∧ tt = .int .i64 (f + (k : Int) * g) ∧ wr.ownsRow w1.heap.size 2 1 v k ((multsL f g k).map (Value.int .i64)) ∧ Below w1.heap.size w1 wr ∧ (v = .slice none 0 0 ↔ k = 0))
        (fun _ tt _ => (t - intOf tt).toNat)
      case atStart => exact ⟨0, Nat.zero_le _, by simp, World.ownsRow_nil _ _ _ _, Below.refl _ _, by simp⟩
      case round =>
        obtain ⟨k, hk, rfl, hown, hbel, hnil⟩ := hrel
        have hcx : wr.cell? ⟨w.heap.size, 1, none⟩ = some (.int .i64 t) := (hbel.cell (p := ⟨w.heap.size, 1, none⟩) (by simp; omega)).trans (by go_simp)
        have hsz := hbel.size
        by_cases hlt : k < N
        · have hlt' := (HN.out k).2 hlt
          have hkg : 0 ≤ (k : Int) * g := Int.mul_nonneg (by omega) (by omega)
          have hms := hid (multsL_succ f g k)
          go_wp2_with (at_builtin; go_loud (refine wpList_append_own _ rfl _ _ 33 rfl (w1.heap.size) 2 i0 (.int .i64 0) 1 8 Try.underlying33 hi hiz0 hiz1 hiz2 rfl (by decide) _ _ _ rfl (hown.alloc _) ⟨wr.heap.size, 0, none⟩ 1 1 [.int .i64 (f + (k : Int) * g)] rfl rfl (one_new _ _ _) (one_int _ _) (by unfold maxLen; omega) (by omega) (by simp; omega) ?_); intro v' w1' hown' hgrow' hnil')
          have hown2 : w1'.ownsRow w1.heap.size 2 1 v' (k + 1) ((multsL f g (k + 1)).map (Value.int .i64)) := by rw [hms.out, List.map_append]; exact hown'
          have hb2 : Below w1.heap.size w1 w1' := (hbel.alloc hsz _).grown hgrow' (by simp; omega) (fun r e => (hown.lt r e).1)
          have hne : ¬ v' = .slice none 0 0 := fun h => by have := hnil'.1 h; simp at this
          have hstep : f + (k : Int) * g + g = f + ((k + 1 : Nat) : Int) * g := by
            have : ((k + 1 : Nat) : Int) * g = (k : Int) * g + g := by rw [Int.natCast_add, Int.add_mul]; simp
            rw [this]; omega
          go_roundw
          case rel => exact ⟨k + 1, hlt, by rw [hstep], hown2, hb2, by simp [hne]⟩
          case measure => simp [intOf]; omega
        · have hge : ¬ f + (k : Int) * g < t := fun h => hlt ((HN.out k).1 h)
          obtain rfl : k = N := by omega
          have hlen := hid (multsL_length f g k)
          go_wp2
          go_returns
          exact ⟨_, rfl, hown.base_le (by omega), hnil.trans (by rw [← List.length_eq_zero_iff, hlen.out]), (((Below.refl _ _).alloc (Nat.le_refl _) _).step hb1).step hbel⟩
    · have hL : bucketsL f t g = [] := by simp [bucketsL, bucketsOk, h1, h2]
      have hE : bucketsE f t g = 110 := by simp [bucketsE, bucketsOk, h1, h2]
      have hq2 : 1000 < (t - f + g - 1) / g := by unfold bucketsN at h2; omega
      rw [hL, hE]
      have H1 := hid h1; clear h1 hL hE h2
      go_enter Try.func37, Try.ntmps37
      go_wp2_with (go_at_call 28; ((with_reducible refine (refFits_any _ _ _ _).mono ?_); rintro e w1 ⟨rfl, hb1⟩; rw [H1.out]; obtain ⟨hc1, hf1, hk1, hz1⟩ := bcell3 hb1; (try simp only [World.size_alloc] at hz1); have : w.heap.size < w1.heap.size := (by omega)))
      go_returns
      exact ⟨_, rfl, World.ownsRow_nil _ _ _ _, by simp, by (repeat' (first | (with_reducible exact Below.refl _ _) | (with_reducible assumption) | (with_reducible refine Below.new ?_ _) | (with_reducible refine Below.alloc ?_ ?_ _) | (with_reducible refine Below.drew ?_) | (with_reducible refine Below.setCell ?_ ?_ _) | (refine Below.step ?_ (by assumption)) | go_size))⟩
  | false =>
    have hL : bucketsL f t g = [] := by simp [bucketsL, bucketsOk, h1]
    have hE : bucketsE f t g = 110 := by simp [bucketsE, bucketsOk, h1]
    rw [hL, hE]
    have H1 := hid h1; clear h1 hL hE
    go_enter Try.func37, Try.ntmps37
    go_wp2_with (go_at_call 28; ((with_reducible refine (refFits_any _ _ _ _).mono ?_); rintro e w1 ⟨rfl, hb1⟩; rw [H1.out]; obtain ⟨hc1, hf1, hk1, hz1⟩ := bcell3 hb1; (try simp only [World.size_alloc] at hz1); have : w.heap.size < w1.heap.size := (by omega)))
    go_returns
    exact ⟨_, rfl, World.ownsRow_nil _ _ _ _, by simp, by (repeat' (first | (with_reducible exact Below.refl _ _) | (with_reducible assumption) | (with_reducible refine Below.new ?_ _) | (with_reducible refine Below.alloc ?_ ?_ _) | (with_reducible refine Below.drew ?_) | (with_reducible refine Below.setCell ?_ ?_ _) | (refine Below.step ?_ (by assumption)) | go_size))⟩
end Go.Proofs.Ytekmcomddaoljaa
