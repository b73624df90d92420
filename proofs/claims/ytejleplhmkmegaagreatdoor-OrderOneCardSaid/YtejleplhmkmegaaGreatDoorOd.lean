/- Texts joined: RolA, FlA, FlB, FlD, FlE, RtA, RtB, RtO. -/
import Derived.Test.YtejleplhmkmegaaGreatDoorOb
import Derived.Test.YtejleplhmkmegaaGreatDoorOc
import Derived.Lib.Bytealg
import Derived.Laws.FloatArith
import Derived.Laws.FloatBits
import Derived.Laws.Bits64b
import Derived.Test.YtejleplhmkmegaaGreatDoorOa
import Derived.WalkLawsBesides
/- Rollup: which values stand ahead of others: the program's 'Less'. -/
namespace Go.Proofs.YtejleplhmkmegaaGreatDoor
set_option linter.unusedVariables false
set_option linter.unusedSimpArgs false
set_option maxRecDepth 100000
open Go.ChangeShapes Go.WideShapes Go.ChangeAt Go.RowKit

def cmpS (a b : ByteArray) : Int := Lib.compareBytes a.data.toList b.data.toList
theorem cmpB_is : ∀ (a b : List UInt8), Lib.compareBytes a b = -1 ∨ Lib.compareBytes a b = 0 ∨ Lib.compareBytes a b = 1
  | [], [] => .inr (.inl rfl)
  | [], _ :: _ => .inl rfl
  | _ :: _, [] => .inr (.inr rfl)
  | a :: l, b :: m => by
    unfold Lib.compareBytes
    split
    · exact .inl rfl
    · split
      · exact .inr (.inr rfl)
      · exact cmpB_is l m
theorem cmpS_is (a b : ByteArray) : cmpS a b = -1 ∨ cmpS a b = 0 ∨ cmpS a b = 1 := cmpB_is _ _
/-- Two values compared. -/
def cmpV (a b : ValD) : Int := if a.nl = true then (if b.nl = true then 0 else -1) else (if b.nl = true then 1 else cmpS a.s b.s)
theorem cmpV_is (a b : ValD) : cmpV a b = -1 ∨ cmpV a b = 0 ∨ cmpV a b = 1 := by
  unfold cmpV
  (repeat' split)
  · exact .inr (.inl rfl)
  · exact .inl rfl
  · exact .inr (.inr rfl)
  · exact cmpS_is _ _
/-- Two lists compared. -/
def cmpL : List ValD → List ValD → Int
  | [], [] => 0
  | [], _ :: _ => -1
  | _ :: _, [] => 1
  | a :: l, b :: m => if cmpV a b = 0 then cmpL l m else cmpV a b
def lessL (a b : List ValD) : Bool := decide (cmpL a b < 0)

theorem compare_any (a b : ValD) (w : World) : Calls Tryz.prog 213 #[.agg #[.string a.s, .bool a.nl], .agg #[.string b.s, .bool b.nl]] w fun e w' => e = .returned (.int .i64 (cmpV a b)) ∧ Below w.heap.size w w' := by
  obtain ⟨s, n⟩ := a
  obtain ⟨t, m⟩ := b
  cases n with
  | true =>
    cases m with
    | true =>
      have hc : Hid (cmpV ⟨s, true⟩ ⟨t, true⟩ = 0) := rfl
      rw [hc.out]
      go_enter Tryz.func213, Tryz.ntmps213
      go_wp2
      go_ret
      exact ⟨rfl, by (repeat' (first | (with_reducible exact Below.refl _ _) | (with_reducible assumption) | (with_reducible refine Below.new ?_ _) | (with_reducible refine Below.alloc ?_ ?_ _) | (with_reducible refine Below.drew ?_) | (with_reducible refine Below.drewN ?_ _) | (with_reducible refine Below.setCell ?_ ?_ _) | (refine Below.step ?_ (by assumption)) | go_size))⟩
    | false =>
      have hc : Hid (cmpV ⟨s, true⟩ ⟨t, false⟩ = -1) := rfl
      rw [hc.out]
      go_enter Tryz.func213, Tryz.ntmps213
      go_wp2
      go_ret
      exact ⟨rfl, by (repeat' (first | (with_reducible exact Below.refl _ _) | (with_reducible assumption) | (with_reducible refine Below.new ?_ _) | (with_reducible refine Below.alloc ?_ ?_ _) | (with_reducible refine Below.drew ?_) | (with_reducible refine Below.drewN ?_ _) | (with_reducible refine Below.setCell ?_ ?_ _) | (refine Below.step ?_ (by assumption)) | go_size))⟩
  | false =>
    cases m with
    | true =>
      have hc : Hid (cmpV ⟨s, false⟩ ⟨t, true⟩ = 1) := rfl
      rw [hc.out]
      go_enter Tryz.func213, Tryz.ntmps213
      go_wp2
      go_ret
      exact ⟨rfl, by (repeat' (first | (with_reducible exact Below.refl _ _) | (with_reducible assumption) | (with_reducible refine Below.new ?_ _) | (with_reducible refine Below.alloc ?_ ?_ _) | (with_reducible refine Below.drew ?_) | (with_reducible refine Below.drewN ?_ _) | (with_reducible refine Below.setCell ?_ ?_ _) | (refine Below.step ?_ (by assumption)) | go_size))⟩
    | false =>
      have hc : Hid (cmpV ⟨s, false⟩ ⟨t, false⟩ = cmpS s t) := rfl
      rw [hc.out]
      have HC := hid (fun W => Tryz.strings_Compare s t W)
      rw [show Lib.compareBytes s.data.toList t.data.toList = cmpS s t from rfl] at HC
      generalize cmpS s t = r at *
      go_enter Tryz.func213, Tryz.ntmps213
      go_wp2_with (go_at_call 237; ((with_reducible refine (HC.out _).mono ?_); rintro e w1 ⟨rfl, rfl⟩))
      go_ret
      exact ⟨rfl, by (repeat' (first | (with_reducible exact Below.refl _ _) | (with_reducible assumption) | (with_reducible refine Below.new ?_ _) | (with_reducible refine Below.alloc ?_ ?_ _) | (with_reducible refine Below.drew ?_) | (with_reducible refine Below.drewN ?_ _) | (with_reducible refine Below.setCell ?_ ?_ _) | (refine Below.step ?_ (by assumption)) | go_size))⟩

set_option maxHeartbeats 2000000 in
theorem compareFunc_any (va vb : Value) (a b : List ValD) (w : World) (ha : ValsSl w va a) (hb : ValsSl w vb b) :
    Calls Tryz.prog 212 #[va, vb, .func (.func 213) #[] #[]] w fun e w' => e = .returned (.int .i64 (cmpL a b)) ∧ Below w.heap.size w w' := by
  obtain ⟨ao, ca, rfl, h1, h2, _, hA⟩ := ValsSl.parts ha
  obtain ⟨bo, cb, rfl, h3, h4, _, hB⟩ := ValsSl.parts hb
  have HA := hid hA; have HB := hid hB
  obtain ⟨R, hR⟩ : ∃ R, cmpL a b = R := ⟨_, rfl⟩
  rw [hR]
  have hR0 : cmpL (a.drop 0) (b.drop 0) = R := hR
  have HR := hid hR0
  obtain ⟨la, hla⟩ : ∃ n, a.length = n := ⟨_, rfl⟩
  obtain ⟨lb, hlb⟩ : ∃ n, b.length = n := ⟨_, rfl⟩
  have HLA := hid hla; have HLB := hid hlb
  rw [hla] at h1 ⊢
  rw [hlb] at h3 ⊢
  unfold maxLen at h2 h4
  clear hA hB ha hb hR hR0 hla hlb
  go_enter Tryz.func212, Tryz.ntmps212
  go_wp2
  go_loopw [13] (fun i wr => ∃ k : Nat, k ≤ la ∧ k ≤ lb ∧ i = .int .i64 k ∧ cmpL (a.drop k) (b.drop k) = R ∧ Below w.heap.size w wr) (fun i _ => la - (intOf i).toNat)
  case atStart => exact ⟨0, Nat.zero_le _, Nat.zero_le _, rfl, HR.out, Below.refl _ _⟩
  case round =>
    obtain ⟨k, hk, hkb, rfl, hrel, hbel⟩ := hrel
    have HREL := hid hrel; have HBEL := hid hbel
    clear hrel hbel
    by_cases hka : k < la
    · have hlen : k < a.length := by rw [HLA.out]; exact hka
      obtain ⟨ba, oa, rfl, hca⟩ := HA.out (by omega)
      obtain ⟨c1, c2⟩ := hca k hlen
      have d1 := cell_step c1 HBEL.out
      have d2 := cell_step c2 HBEL.out
      have ea : a.drop k = a[k] :: a.drop (k + 1) := List.drop_eq_getElem_cons hlen
      clear hca c1 c2
      have g1 : (0 : Int) ≤ (k : Int) := Int.natCast_nonneg _
      have g2 : (k : Int) < (la : Int) := by omega
      by_cases hkb2 : k < lb
      · have hlenb : k < b.length := by rw [HLB.out]; exact hkb2
        obtain ⟨bb, ob, rfl, hcb⟩ := HB.out (by omega)
        obtain ⟨c1, c2⟩ := hcb k hlenb
        have e1 := cell_step c1 HBEL.out
        have e2 := cell_step c2 HBEL.out
        have zb := World.block_lt_of_cell? _ _ e1
        have eb : b.drop k = b[k] :: b.drop (k + 1) := List.drop_eq_getElem_cons hlenb
        have hstep : R = if cmpV a[k] b[k] = 0 then cmpL (a.drop (k + 1)) (b.drop (k + 1)) else cmpV a[k] b[k] := by rw [← HREL.out, ea, eb]; simp only [cmpL]
        have HC := hid (fun W => compare_any a[k] b[k] W)
        have hci := cmpV_is a[k] b[k]
        clear hcb c1 c2 ea eb
        generalize a[k] = x at *
        generalize b[k] = y at *
        have g3 : (k : Int) < (lb : Int) := by omega
        have q1 : x.s = x.s := rfl
        generalize x.s = xs at *
        generalize x.nl = xn at *
        generalize y.s = ys at *
        generalize y.nl = yn at *
        generalize cmpV x y = r at *
        clear q1
        by_cases hr : r = 0
        · rw [if_pos hr] at hstep
          have HSTEP := hid hstep.symm
          subst hr
          clear hci hstep
          go_wp2_with (go_at_call 213; ((with_reducible refine (HC.out _).mono ?_); rintro e w2 ⟨rfl, hb2⟩; obtain ⟨hc2, hf2, hk2, hz2⟩ := bcell3 hb2; (try simp only [World.size_alloc, World.size_drew] at hz2)))
          go_roundw
          case rel => exact ⟨k + 1, hka, hkb2, by go_num, HSTEP.out, by have := HBEL.out; (repeat' (first | (with_reducible exact Below.refl _ _) | (with_reducible assumption) | (with_reducible refine Below.new ?_ _) | (with_reducible refine Below.alloc ?_ ?_ _) | (with_reducible refine Below.drew ?_) | (with_reducible refine Below.drewN ?_ _) | (with_reducible refine Below.setCell ?_ ?_ _) | (refine Below.step ?_ (by assumption)) | go_size))⟩
          case measure => simp [intOf]; omega
        · rw [if_neg hr] at hstep
          have HSTEP := hid hstep
          have hq : (r != 0) = true := by simpa using hr
          clear hci hstep hr
          go_wp2_with (go_at_call 213; ((with_reducible refine (HC.out _).mono ?_); rintro e w2 ⟨rfl, hb2⟩; obtain ⟨hc2, hf2, hk2, hz2⟩ := bcell3 hb2; (try simp only [World.size_alloc, World.size_drew] at hz2)))
          go_ret
          exact ⟨ret_int HSTEP.out.symm, by have := HBEL.out; (repeat' (first | (with_reducible exact Below.refl _ _) | (with_reducible assumption) | (with_reducible refine Below.new ?_ _) | (with_reducible refine Below.alloc ?_ ?_ _) | (with_reducible refine Below.drew ?_) | (with_reducible refine Below.drewN ?_ _) | (with_reducible refine Below.setCell ?_ ?_ _) | (refine Below.step ?_ (by assumption)) | go_size))⟩
      · obtain rfl : k = lb := by omega
        have eb : b.drop k = [] := List.drop_eq_nil_of_le (by rw [HLB.out]; omega)
        have hR1 : R = 1 := by rw [← HREL.out, ea, eb]; rfl
        have HR1 := hid hR1
        clear ea eb hR1
        generalize a[k] = x at *
        go_wp2
        go_ret
        exact ⟨ret_int HR1.out.symm, by have := HBEL.out; (repeat' (first | (with_reducible exact Below.refl _ _) | (with_reducible assumption) | (with_reducible refine Below.new ?_ _) | (with_reducible refine Below.alloc ?_ ?_ _) | (with_reducible refine Below.drew ?_) | (with_reducible refine Below.drewN ?_ _) | (with_reducible refine Below.setCell ?_ ?_ _) | (refine Below.step ?_ (by assumption)) | go_size))⟩
    · obtain rfl : k = la := by omega
      have ea : a.drop k = [] := List.drop_eq_nil_of_le (by rw [HLA.out]; omega)
      by_cases hkb2 : k < lb
      · have hlenb : k < b.length := by rw [HLB.out]; exact hkb2
        have eb : b.drop k = b[k] :: b.drop (k + 1) := List.drop_eq_getElem_cons hlenb
        have HR1 : Hid (R = -1) := by unfold Hid; rw [← HREL.out, ea, eb]; rfl
        clear ea eb
        go_wp2
        go_ret
        exact ⟨ret_int HR1.out.symm, by have := HBEL.out; (repeat' (first | (with_reducible exact Below.refl _ _) | (with_reducible assumption) | (with_reducible refine Below.new ?_ _) | (with_reducible refine Below.alloc ?_ ?_ _) | (with_reducible refine Below.drew ?_) | (with_reducible refine Below.drewN ?_ _) | (with_reducible refine Below.setCell ?_ ?_ _) | (refine Below.step ?_ (by assumption)) | go_size))⟩
      · obtain rfl : k = lb := by omega
        have eb : b.drop k = [] := List.drop_eq_nil_of_le (by rw [HLB.out]; omega)
        have HR1 : Hid (R = 0) := by unfold Hid; rw [← HREL.out, ea, eb]; rfl
        clear ea eb
        go_wp2
        go_ret
        exact ⟨ret_int HR1.out.symm, by have := HBEL.out; (repeat' (first | (with_reducible exact Below.refl _ _) | (with_reducible assumption) | (with_reducible refine Below.new ?_ _) | (with_reducible refine Below.alloc ?_ ?_ _) | (with_reducible refine Below.drew ?_) | (with_reducible refine Below.drewN ?_ _) | (with_reducible refine Below.setCell ?_ ?_ _) | (refine Below.step ?_ (by assumption)) | go_size))⟩
theorem less_any (va vb : Value) (a b : List ValD) (w : World) (ha : ValsSl w va a) (hb : ValsSl w vb b) :
    Calls Tryz.prog 168 #[va, vb] w fun e w' => e = .returned (.bool (lessL a b)) ∧ Below w.heap.size w w' := by
  have HC := hid (compareFunc_any va vb a b w ha hb)
  unfold lessL
  generalize cmpL a b = r at *
  obtain ⟨ao, ca, rfl, _⟩ := SlAt.shape ha
  obtain ⟨bo, cb, rfl, _⟩ := SlAt.shape hb
  clear ha hb
  go_enter Tryz.func168, Tryz.ntmps168
  go_wp2_with (go_at_call 212; ((with_reducible refine (HC.out).mono ?_); rintro e w2 ⟨rfl, hb2⟩))
  go_ret
  exact ⟨rfl, hb2⟩
end Go.Proofs.YtejleplhmkmegaaGreatDoor
/- Floating numbers, plainly: what their words stand for. -/
namespace Go.Fl
open Ieee

theorem wt : double.signWeight = 2 ^ 63 := rfl
theorem bn : double.binade = 2 ^ 52 := rfl
theorem inr : double.infRung = 2047 * 2 ^ 52 := rfl
theorem lp : double.leastPlace = -1074 := rfl
theorem fb : double.fractionBits = 52 := rfl

theorem log2_shift {M d : Nat} (hM : 0 < M) : (M * 2 ^ d).log2 = M.log2 + d := by
  have h1 : M * 2 ^ d ≠ 0 := Nat.ne_of_gt (Nat.mul_pos hM (Nat.two_pow_pos d))
  rw [Nat.log2_eq_iff h1]
  have h2 := (Nat.log2_eq_iff (Nat.ne_of_gt hM)).1 rfl
  constructor
  · rw [Nat.pow_add]; exact Nat.mul_le_mul_right _ h2.1
  · rw [show M.log2 + d + 1 = M.log2 + 1 + d by omega, Nat.pow_add]
    exact Nat.mul_lt_mul_of_pos_right h2.2 (Nat.two_pow_pos d)

theorem cut_exact {neg : Bool} {M d : Nat} (hM : 0 < M) : Toward.even.cut neg (M * 2 ^ d) d = M := by
  unfold Toward.cut
  have hl : d ≤ (M * 2 ^ d).log2 + 2 := by rw [log2_shift hM]; omega
  rw [Nat.min_eq_left hl]
  have h1 : (1 : Nat) <<< d = 2 ^ d := by rw [Nat.shiftLeft_eq, Nat.one_mul]
  have hp := Nat.two_pow_pos d
  dsimp only
  rw [h1, Nat.mul_div_cancel _ hp, Nat.mul_mod_left]
  simp

/-- The word nearest to a number that the format has is that number's. -/
theorem nearest_exact (neg : Bool) (mag : Nat) (place : Int) (K M : Nat) (hM : M < 2 ^ 53) (hK : K = 0 ∨ 2 ^ 52 ≤ M) (h0 : 0 < M) (hI : K * 2 ^ 52 + M < 2047 * 2 ^ 52)
    (hv : (∃ d : Nat, place = (K : Int) - 1074 - d ∧ mag = M * 2 ^ d) ∨ (∃ d : Nat, place = (K : Int) - 1074 + d ∧ M = mag * 2 ^ d)) :
    double.nearest neg mag place = double.word neg (K * 2 ^ 52 + M) := by
  have hlog : M.log2 ≤ 52 := by
    have := (Nat.log2_eq_iff (Nat.ne_of_gt h0) (k := M.log2)).1 rfl
    by_cases h : M.log2 ≤ 52
    · exact h
    · have : 2 ^ 53 ≤ 2 ^ M.log2 := Nat.pow_le_pow_right (by decide) (by omega)
      omega
  have hlog2 : 2 ^ 52 ≤ M → M.log2 = 52 := fun h => (Nat.log2_eq_iff (Nat.ne_of_gt h0)).2 ⟨h, hM⟩
  have key : ∀ last : Int, last = (K : Int) - 1074 → (last - -1074).toNat = K := fun last h => by omega
  unfold Format.nearest
  rw [lp, fb, bn, inr]
  rcases hv with ⟨d, rfl, rfl⟩ | ⟨d, rfl, rfl⟩
  · rw [if_neg (Nat.ne_of_gt (Nat.mul_pos h0 (Nat.two_pow_pos d))), log2_shift h0]
    have hl : max ((K : Int) - 1074 - d + ((M.log2 + d : Nat) : Int) - ((52 : Nat) : Int)) (-1074) = (K : Int) - 1074 := by
      rcases hK with h | h
      · omega
      · have := hlog2 h; omega
    dsimp only
    rw [hl, key _ rfl]
    have e1 : ((K : Int) - 1074 - d - ((K : Int) - 1074)).toNat = 0 := by omega
    have e2 : ((K : Int) - 1074 - ((K : Int) - 1074 - d)).toNat = d := by omega
    rw [e1, e2, Nat.shiftLeft_zero, cut_exact h0, Nat.min_eq_left (by omega)]
  · have hm : 0 < mag := by
      rcases Nat.eq_zero_or_pos mag with h | h
      · subst h; simp at h0
      · exact h
    have hlm : (mag * 2 ^ d).log2 = mag.log2 + d := log2_shift hm
    rw [if_neg (Nat.ne_of_gt hm)]
    have hl : max ((K : Int) - 1074 + d + (mag.log2 : Int) - ((52 : Nat) : Int)) (-1074) = (K : Int) - 1074 := by
      rcases hK with h | h
      · omega
      · have := hlog2 h; omega
    dsimp only
    rw [hl, key _ rfl]
    have e1 : ((K : Int) - 1074 + d - ((K : Int) - 1074)).toNat = d := by omega
    have e2 : ((K : Int) - 1074 - ((K : Int) - 1074 + d)).toNat = 0 := by omega
    rw [e1, e2, Nat.shiftLeft_eq]
    have := cut_exact (neg := neg) (M := mag * 2 ^ d) (d := 0) h0
    rw [Nat.pow_zero, Nat.mul_one] at this
    rw [this, Nat.min_eq_left (by omega)]

/-- A finite word's parts: its last digit's place above the least one, its digits. -/
def fK (r : Nat) : Nat := if r < 2 ^ 52 then 0 else r / 2 ^ 52 - 1
def fM (r : Nat) : Nat := if r < 2 ^ 52 then r else 2 ^ 52 + r % 2 ^ 52
theorem rung_parts (r : Nat) : r = fK r * 2 ^ 52 + fM r := by
  unfold fK fM
  split
  · omega
  · have h1 := Nat.div_add_mod r (2 ^ 52)
    have h2 : 1 ≤ r / 2 ^ 52 := by omega
    omega
theorem fM_lt (r : Nat) : fM r < 2 ^ 53 := by unfold fM; split <;> omega
theorem fK_or (r : Nat) : fK r = 0 ∨ 2 ^ 52 ≤ fM r := by unfold fK fM; split <;> omega
theorem parts_of {K M : Nat} (hM : M < 2 ^ 53) (hK : K = 0 ∨ 2 ^ 52 ≤ M) : fK (K * 2 ^ 52 + M) = K ∧ fM (K * 2 ^ 52 + M) = M := by
  unfold fK fM
  by_cases h : M < 2 ^ 52
  · have hk : K = 0 := by omega
    subst hk
    simp [h]
  · have h3 : (K * 2 ^ 52 + M) / 2 ^ 52 = K + 1 := by omega
    have h4 : (K * 2 ^ 52 + M) % 2 ^ 52 = M - 2 ^ 52 := by omega
    rw [if_neg (by omega), if_neg (by omega), h3, h4]
    omega
def sgn (b : Nat) : Bool := b / 2 ^ 63 % 2 == 1
theorem read_fin {b : Nat} (h : b % 2 ^ 63 < 2047 * 2 ^ 52) : double.read b = .number (sgn b) (fM (b % 2 ^ 63)) ((fK (b % 2 ^ 63) : Int) - 1074) := by
  unfold Format.read
  rw [wt, bn, inr, lp]
  unfold fM fK sgn
  dsimp only
  by_cases h1 : b % 2 ^ 63 < 2 ^ 52
  · rw [if_pos h1, if_pos h1, if_pos h1]; rfl
  · rw [if_neg h1, if_pos h, if_neg h1, if_neg h1]
    congr 1
theorem read_inf {b : Nat} (h : b % 2 ^ 63 = 2047 * 2 ^ 52) : double.read b = .infinity (sgn b) := by
  unfold Format.read
  rw [wt, bn, inr, lp]
  unfold sgn
  dsimp only
  rw [if_neg (by omega), if_neg (by omega), if_pos h]
theorem read_nan {b : Nat} (h : 2047 * 2 ^ 52 < b % 2 ^ 63) : double.read b = .nan (sgn b) (b % 2 ^ 63 - 2047 * 2 ^ 52) := by
  unfold Format.read
  rw [wt, bn, inr, lp]
  unfold sgn
  dsimp only
  rw [if_neg (by omega), if_neg (by omega), if_neg (by omega)]
theorem word_parts {b : Nat} (hb : b < 2 ^ 64) : double.word (sgn b) (b % 2 ^ 63) = b := by
  unfold Format.word sgn
  rw [wt]
  by_cases h : b / 2 ^ 63 % 2 = 1
  · simp [h]; omega
  · simp [h]; omega
theorem word_mod (neg : Bool) {r : Nat} (h : r < 2 ^ 63) : double.word neg r % 2 ^ 63 = r ∧ sgn (double.word neg r) = neg ∧ double.word neg r < 2 ^ 64 := by
  unfold Format.word sgn
  rw [wt]
  cases neg <;> simp <;> omega
end Go.Fl
/- Floating numbers, plainly: their order. -/
namespace Go.Fl
open Ieee

/-- A finite word's magnitude, in units of the least place. -/
def val (r : Nat) : Nat := fM r * 2 ^ fK r
theorem val_lt {r s : Nat} (h : r < s) : val r < val s := by
  have e1 := rung_parts r; have e2 := rung_parts s
  have m1 := fM_lt r; have m2 := fM_lt s
  have k2 := fK_or s; have k1 := fK_or r
  unfold val
  generalize fK r = K at *; generalize fK s = L at *; generalize fM r = M at *; generalize fM s = N at *
  by_cases hKL : K = L
  · subst hKL
    have : M < N := by omega
    exact Nat.mul_lt_mul_of_pos_right this (Nat.two_pow_pos _)
  · have hlt : K < L := by
      rcases Nat.lt_or_gt_of_ne hKL with h1 | h1
      · exact h1
      · exfalso
        have : (L + 1) * 2 ^ 52 ≤ K * 2 ^ 52 := Nat.mul_le_mul_right _ h1
        omega
    have hN : 2 ^ 52 ≤ N := by omega
    have h1 : M * 2 ^ K < 2 ^ 53 * 2 ^ K := Nat.mul_lt_mul_of_pos_right m1 (Nat.two_pow_pos _)
    have h2 : 2 ^ 52 * 2 ^ L ≤ N * 2 ^ L := Nat.mul_le_mul_right _ hN
    have h3 : 2 ^ 53 * 2 ^ K ≤ 2 ^ 52 * 2 ^ L := by
      rw [← Nat.pow_add, ← Nat.pow_add]
      exact Nat.pow_le_pow_right (by decide) (by omega)
    omega
theorem val_zero : val 0 = 0 := rfl
theorem val_inj {r s : Nat} (h : val r = val s) : r = s := by
  rcases Nat.lt_trichotomy r s with h1 | h1 | h1
  · have := val_lt h1; omega
  · exact h1
  · have := val_lt h1; omega
theorem val_pos {r : Nat} (h : 0 < r) : 0 < val r := by have := val_lt h; rw [val_zero] at this; exact this

/-- Where a word that is a number stands. -/
def skey (b : Nat) : Int := if sgn b then -((b % 2 ^ 63 : Nat) : Int) else ((b % 2 ^ 63 : Nat) : Int)
def isNan (b : Nat) : Bool := decide (2047 * 2 ^ 52 < b % 2 ^ 63)
def sval (neg : Bool) (v : Nat) : Int := if neg then -(v : Int) else (v : Int)
theorem signed_eq (neg : Bool) (m u : Nat) : signed neg m u = sval neg (m * 2 ^ u) := by
  unfold signed sval; rw [Nat.shiftLeft_eq]
theorem cmp_int (a b c d : Int) (h : (a < b ↔ c < d) ∧ (a = b ↔ c = d)) : compare a b = compare c d := by
  rcases Int.lt_trichotomy a b with h1 | h1 | h1
  · rw [Int.compare_eq_lt.2 h1, Int.compare_eq_lt.2 (h.1.1 h1)]
  · rw [Int.compare_eq_eq.2 h1, Int.compare_eq_eq.2 (h.2.1 h1)]
  · have h2 : d < c := by
      rcases Int.lt_trichotomy c d with h3 | h3 | h3
      · have := h.1.2 h3; omega
      · have := h.2.2 h3; omega
      · exact h3
    rw [Int.compare_eq_gt.2 h1, Int.compare_eq_gt.2 h2]
theorem cmp_mono (r q : Nat) : (val r < val q ↔ r < q) ∧ (val r = val q ↔ r = q) := by
  refine ⟨⟨fun h => ?_, val_lt⟩, ⟨val_inj, fun h => by rw [h]⟩⟩
  rcases Nat.lt_trichotomy r q with h1 | h1 | h1
  · exact h1
  · subst h1; omega
  · have := val_lt h1; omega
theorem order_nan {x y : Nat} (h : isNan x = true ∨ isNan y = true) : double.order x y = none := by
  unfold Format.order
  rcases h with h | h
  · rw [read_nan (by simpa [isNan] using h)]; rfl
  · rw [read_nan (b := y) (by simpa [isNan] using h)]
    cases double.read x <;> rfl
theorem skey_eq (b : Nat) : skey b = sval (sgn b) (b % 2 ^ 63) := rfl
theorem cmp_sval (s t : Bool) {a b r q : Nat} (h1 : a < b ↔ r < q) (h2 : b < a ↔ q < r) (h3 : a = b ↔ r = q) (h4 : a = 0 ↔ r = 0) (h5 : b = 0 ↔ q = 0) : compare (sval s a) (sval t b) = compare (sval s r) (sval t q) := by
  refine cmp_int _ _ _ _ ?_
  unfold sval
  cases s <;> cases t <;> simp only [if_true, if_false, Bool.false_eq_true] <;> omega
set_option linter.unusedVariables false in
theorem cmp_scale (M K N L : Nat) : (M * 2 ^ (K - min K L) < N * 2 ^ (L - min K L) ↔ M * 2 ^ K < N * 2 ^ L) := by
  have e1 : M * 2 ^ K = M * 2 ^ (K - min K L) * 2 ^ min K L := by rw [Nat.mul_assoc, ← Nat.pow_add, show K - min K L + min K L = K by omega]
  have e2 : N * 2 ^ L = N * 2 ^ (L - min K L) * 2 ^ min K L := by rw [Nat.mul_assoc, ← Nat.pow_add, show L - min K L + min K L = L by omega]
  rw [e1, e2]
  exact (Nat.mul_lt_mul_right (Nat.two_pow_pos _)).symm
theorem order_num {x y : Nat} (hx : isNan x = false) (hy : isNan y = false) : double.order x y = some (compare (skey x) (skey y)) := by
  have hx' : x % 2 ^ 63 ≤ 2047 * 2 ^ 52 := by simpa [isNan] using hx
  have hy' : y % 2 ^ 63 ≤ 2047 * 2 ^ 52 := by simpa [isNan] using hy
  unfold Format.order
  rw [skey_eq, skey_eq]
  by_cases h1 : x % 2 ^ 63 < 2047 * 2 ^ 52
  · rw [read_fin h1]
    by_cases h2 : y % 2 ^ 63 < 2047 * 2 ^ 52
    · rw [read_fin h2]
      unfold Datum.order
      dsimp only
      generalize hr : x % 2 ^ 63 = r at *
      generalize hq : y % 2 ^ 63 = q at *
      congr 1
      rw [signed_eq, signed_eq]
      have e1 : ((fK r : Int) - 1074 - min ((fK r : Int) - 1074) ((fK q : Int) - 1074)).toNat = fK r - min (fK r) (fK q) := by omega
      have e2 : ((fK q : Int) - 1074 - min ((fK r : Int) - 1074) ((fK q : Int) - 1074)).toNat = fK q - min (fK r) (fK q) := by omega
      rw [e1, e2]
      have c1 := cmp_scale (fM r) (fK r) (fM q) (fK q)
      have c2 := cmp_scale (fM q) (fK q) (fM r) (fK r)
      rw [Nat.min_comm (fK q)] at c2
      have v1 := cmp_mono r q
      have v2 := cmp_mono q r
      have z1 := cmp_mono r 0
      have z2 := cmp_mono q 0
      rw [val_zero] at z1 z2
      have p1 : 0 < 2 ^ (fK r - min (fK r) (fK q)) := Nat.two_pow_pos _
      have p2 : 0 < 2 ^ (fK q - min (fK r) (fK q)) := Nat.two_pow_pos _
      have q1 : 0 < 2 ^ fK r := Nat.two_pow_pos _
      have q2 : 0 < 2 ^ fK q := Nat.two_pow_pos _
      unfold val at v1 v2 z1 z2
      have w1 : fM r * 2 ^ (fK r - min (fK r) (fK q)) = 0 ↔ fM r * 2 ^ fK r = 0 := by simp [Nat.mul_eq_zero]
      have w2 : fM q * 2 ^ (fK q - min (fK r) (fK q)) = 0 ↔ fM q * 2 ^ fK q = 0 := by simp [Nat.mul_eq_zero]
      refine cmp_sval _ _ (c1.trans v1.1) (c2.trans v2.1) ?_ (w1.trans z1.2) (w2.trans z2.2)
      have a1 := c1.trans v1.1; have a2 := c2.trans v2.1
      omega
    · have h3 : y % 2 ^ 63 = 2047 * 2 ^ 52 := by omega
      rw [read_inf h3]
      unfold Datum.order
      dsimp only
      congr 1
      rw [h3]
      generalize x % 2 ^ 63 = r at *
      unfold sval
      cases sgn y <;> cases sgn x <;> simp <;> first | (symm; rw [Int.compare_eq_lt]; omega) | (symm; rw [Int.compare_eq_gt]; omega)
  · have h3 : x % 2 ^ 63 = 2047 * 2 ^ 52 := by omega
    rw [read_inf h3]
    by_cases h2 : y % 2 ^ 63 < 2047 * 2 ^ 52
    · rw [read_fin h2]
      unfold Datum.order
      dsimp only
      congr 1
      rw [h3]
      generalize y % 2 ^ 63 = r at *
      unfold sval
      cases sgn y <;> cases sgn x <;> simp <;> first | (symm; rw [Int.compare_eq_lt]; omega) | (symm; rw [Int.compare_eq_gt]; omega)
    · have h4 : y % 2 ^ 63 = 2047 * 2 ^ 52 := by omega
      rw [read_inf h4]
      unfold Datum.order
      dsimp only
      rw [h3, h4]
      cases sgn y <;> cases sgn x <;> rfl
end Go.Fl
/- Floating numbers, plainly: products, halves, numbers that the format has. -/
namespace Go.Fl
open Ieee

/-- A finite word that is not 0 has the parts K, M. -/
structure Rep (r K M : Nat) : Prop where
  eq : r = K * 2 ^ 52 + M
  m : M < 2 ^ 53
  k : K = 0 ∨ 2 ^ 52 ≤ M
  pos : 0 < M
  fin : K * 2 ^ 52 + M < 2047 * 2 ^ 52
theorem Rep.of {r : Nat} (h0 : 0 < r) (h : r < 2047 * 2 ^ 52) : Rep r (fK r) (fM r) := by
  have e := rung_parts r
  have hp : 0 < fM r := by
    have := val_pos h0
    unfold val at this
    exact Nat.pos_of_mul_pos_right this
  exact ⟨e, fM_lt r, fK_or r, hp, by rw [← e]; exact h⟩
theorem Rep.lt {r K M : Nat} (h : Rep r K M) : r < 2047 * 2 ^ 52 := by rw [h.eq]; exact h.fin
theorem Rep.parts {r K M : Nat} (h : Rep r K M) : fK r = K ∧ fM r = M := by rw [h.eq]; exact parts_of h.m h.k
theorem Rep.val {r K M : Nat} (h : Rep r K M) : val r = M * 2 ^ K := by unfold Fl.val; rw [h.parts.1, h.parts.2]
theorem Rep.pos' {r K M : Nat} (h : Rep r K M) : 0 < r := by have := h.eq; have := h.pos; omega
/-- A word of these parts, of a sign. -/
theorem Rep.word (neg : Bool) {r K M : Nat} (h : Rep r K M) : double.word neg r % 2 ^ 63 = r ∧ sgn (double.word neg r) = neg ∧ double.word neg r < 2 ^ 64 := word_mod neg (by have := h.lt; omega)
theorem Rep.read (neg : Bool) {r K M : Nat} (h : Rep r K M) : double.read (double.word neg r) = .number neg M ((K : Int) - 1074) := by
  obtain ⟨h1, h2, _⟩ := h.word neg
  rw [read_fin (by rw [h1]; exact h.lt), h1, h2, h.parts.1, h.parts.2]
/-- Two numbers of a form mag * 2 ^ place are the same (place told above -1074). -/
def Same2 (mag : Nat) (p : Int) (K M : Nat) : Prop := (∃ d : Nat, p = (K : Int) - d ∧ mag = M * 2 ^ d) ∨ (∃ d : Nat, p = (K : Int) + d ∧ M = mag * 2 ^ d)
theorem near_rep (neg : Bool) {mag : Nat} {p : Int} {r K M : Nat} (h : Rep r K M) (hv : Same2 mag p K M) : double.nearest neg mag (p - 1074) = double.word neg r := by
  rw [h.eq]
  refine nearest_exact neg mag (p - 1074) K M h.m h.k h.pos h.fin ?_
  rcases hv with ⟨d, rfl, rfl⟩ | ⟨d, rfl, rfl⟩
  · exact .inl ⟨d, by omega, rfl⟩
  · exact .inr ⟨d, by omega, rfl⟩
theorem Same2.uniq {mag : Nat} {p : Int} {r K M q L N : Nat} (h : Rep r K M) (k : Rep q L N) (hv : Same2 mag p K M) (kv : Same2 mag p L N) : r = q := by
  have e1 := near_rep false h hv
  have e2 := near_rep false k kv
  rw [e1] at e2
  have a := (h.word false).1
  have b := (k.word false).1
  rw [e2, b] at a
  exact a.symm
theorem Same2.self {r K M : Nat} (h : Rep r K M) : Same2 M K K M := .inl ⟨0, by omega, by simp⟩
/-- As values, once both are told from one place on. -/
theorem Same2.of_eq {mag K M : Nat} {p : Int} (s : Nat) (hs : 0 ≤ p + s) (h : mag * 2 ^ (p + s).toNat = M * 2 ^ (K + s)) : Same2 mag p K M := by
  by_cases hp : p ≤ K
  · refine .inl ⟨((K : Int) - p).toNat, by omega, ?_⟩
    have e : K + s = ((K : Int) - p).toNat + (p + s).toNat := by omega
    rw [e, Nat.pow_add, ← Nat.mul_assoc] at h
    exact Nat.eq_of_mul_eq_mul_right (Nat.two_pow_pos _) h
  · refine .inr ⟨(p - (K : Int)).toNat, by omega, ?_⟩
    have e : (p + s).toNat = (p - (K : Int)).toNat + (K + s) := by omega
    rw [e, Nat.pow_add, ← Nat.mul_assoc] at h
    exact (Nat.eq_of_mul_eq_mul_right (Nat.two_pow_pos _) h).symm
theorem nan_word {b : Nat} (h : b % 2 ^ 63 < 2047 * 2 ^ 52) : isNan b = false := by unfold isNan; simp; omega
theorem near_num (neg : Bool) (mag : Nat) (place : Int) : ∃ r, double.nearest neg mag place = double.word neg r ∧ r ≤ 2047 * 2 ^ 52 := by
  unfold Format.nearest
  split
  · exact ⟨0, rfl, by decide⟩
  · exact ⟨_, rfl, by rw [inr]; exact Nat.min_le_right _ _⟩
theorem word_nan (neg : Bool) {r : Nat} (h : r ≤ 2047 * 2 ^ 52) : isNan (double.word neg r) = false ∧ double.word neg r < 2 ^ 64 := by
  obtain ⟨h1, _, h3⟩ := word_mod neg (r := r) (by omega)
  refine ⟨?_, h3⟩
  unfold isNan
  rw [h1]; simp; omega
/-- A product of numbers, neither of them a NaN, one of them finite and not 0, is a number. -/
theorem mul_num {c y : Nat} {neg : Bool} {r K M : Nat} (h : Rep r K M) (hc : c = double.word neg r) (hy : isNan y = false) : ∃ z, double.mul c y = some z ∧ isNan z = false ∧ z < 2 ^ 64 := by
  subst hc
  unfold Format.mul
  rw [h.read]
  have hy' : y % 2 ^ 63 ≤ 2047 * 2 ^ 52 := by simpa [isNan] using hy
  by_cases hf : y % 2 ^ 63 < 2047 * 2 ^ 52
  · rw [read_fin hf]
    obtain ⟨z, e, hz⟩ := near_num (neg ^^ sgn y) (M * fM (y % 2 ^ 63)) ((K : Int) - 1074 + ((fK (y % 2 ^ 63) : Int) - 1074))
    exact ⟨_, by unfold Datum.product; rfl, by show isNan (double.nearest _ _ _) = false ∧ double.nearest _ _ _ < 2 ^ 64; rw [e]; exact word_nan _ hz⟩
  · rw [read_inf (by omega)]
    unfold Datum.product
    have : ¬ M = 0 := Nat.ne_of_gt h.pos
    simp only [this, if_false, Option.map_some]
    exact ⟨_, rfl, by show isNan (double.word _ _) = false ∧ double.word _ _ < 2 ^ 64; exact word_nan _ (by rw [inr]; omega)⟩
/-- A product that the format has. -/
theorem mul_rep {n1 n2 : Bool} {r K M q L N t J I : Nat} (h : Rep r K M) (k : Rep q L N) (j : Rep t J I) (hv : Same2 (M * N) ((K : Int) + L - 1074) J I) : double.mul (double.word n1 r) (double.word n2 q) = some (double.word (n1 ^^ n2) t) := by
  unfold Format.mul
  rw [h.read, k.read]
  unfold Datum.product
  simp only [Option.map_some]
  congr 1
  have := near_rep (n1 ^^ n2) j hv
  show double.nearest _ _ _ = _
  rw [← this]
  congr 1
  omega
theorem rep_one : Rep 0x3FF0000000000000 1022 (2 ^ 52) := ⟨by decide, by decide, by decide, by decide, by decide⟩
theorem rep_two : Rep 0x4000000000000000 1023 (2 ^ 52) := ⟨by decide, by decide, by decide, by decide, by decide⟩
/-- 2 to the power of -53. -/
theorem rep_m53 : Rep 0x3CA0000000000000 969 (2 ^ 52) := ⟨by decide, by decide, by decide, by decide, by decide⟩
/-- 2 to the power of 52. -/
theorem rep_p52 : Rep 0x4330000000000000 1074 (2 ^ 52) := ⟨by decide, by decide, by decide, by decide, by decide⟩
theorem word_false (r : Nat) : double.word false r = r := rfl
theorem mul_one {neg : Bool} {r K M : Nat} (h : Rep r K M) : double.mul 0x3FF0000000000000 (double.word neg r) = some (double.word neg r) := by
  have := mul_rep (n1 := false) (n2 := neg) rep_one h h (.inl ⟨52, by omega, Nat.mul_comm _ _⟩)
  rw [word_false] at this
  simpa using this
/-- Twice a number. -/
theorem mul_two {neg : Bool} {r K M t J I : Nat} (h : Rep r K M) (j : Rep t J I) (hv : Same2 M (K + 1) J I) : double.mul (double.word neg r) 0x4000000000000000 = some (double.word neg t) := by
  have := mul_rep (n1 := neg) (n2 := false) h rep_two j (by
    rcases hv with ⟨d, e1, e2⟩ | ⟨d, e1, e2⟩
    · exact .inl ⟨d + 52, by omega, by rw [e2, Nat.pow_add, Nat.mul_assoc]⟩
    · by_cases hd : 52 ≤ d
      · refine .inr ⟨d - 52, by omega, ?_⟩
        rw [e2, Nat.mul_assoc, ← Nat.pow_add, show 52 + (d - 52) = d by omega]
      · refine .inl ⟨52 - d, by omega, ?_⟩
        rw [e2, Nat.mul_assoc, ← Nat.pow_add, show d + (52 - d) = 52 by omega])
  rw [word_false] at this
  simpa using this
/-- Half a number. -/
theorem div_two {neg : Bool} {r K M t J I : Nat} (h : Rep r K M) (j : Rep t J I) (hv : Same2 M ((K : Int) - 1) J I) : double.div (double.word neg r) 0x4000000000000000 = some (double.word neg t) := by
  have hl : M.log2 ≤ 52 := by
    have h1 := (Nat.log2_eq_iff (Nat.ne_of_gt h.pos) (k := M.log2)).1 rfl
    by_cases h2 : M.log2 ≤ 52
    · exact h2
    · have : 2 ^ 53 ≤ 2 ^ M.log2 := Nat.pow_le_pow_right (by decide) (by omega)
      have := h.m
      omega
  have h2 := rep_two.read false
  rw [word_false] at h2
  unfold Format.div
  rw [h.read, h2]
  unfold Datum.quotient
  have hn : ¬ ((2 : Nat) ^ 52 = 0) := by decide
  simp only [hn, if_false, Option.map_some]
  congr 1
  have l52 : Nat.log2 (2 ^ 52) = 52 := by decide
  rw [fb, l52]
  have e1 : 52 + 2 + 52 - M.log2 = (54 - M.log2) + 52 := by omega
  have e2 : M <<< (52 + 2 + 52 - M.log2) = M * 2 ^ (54 - M.log2) * 2 ^ 52 := by rw [Nat.shiftLeft_eq, e1, Nat.pow_add, Nat.mul_assoc]
  rw [e2, Nat.mul_div_cancel _ (by decide : 0 < 2 ^ 52), Nat.mul_mod_left]
  have := near_rep (neg ^^ false) j (mag := 2 * (M * 2 ^ (54 - M.log2))) (p := (K : Int) - 1 - (55 - M.log2 : Nat)) (by
    have e3 : 2 * (M * 2 ^ (54 - M.log2)) = M * 2 ^ (55 - M.log2) := by
      rw [show 55 - M.log2 = (54 - M.log2) + 1 by omega, Nat.pow_succ]; ac_rfl
    rw [e3]
    generalize 55 - M.log2 = u
    rcases hv with ⟨d, e4, e5⟩ | ⟨d, e4, e5⟩
    · exact .inl ⟨d + u, by omega, by rw [e5, Nat.mul_assoc, ← Nat.pow_add]⟩
    · by_cases hd : u ≤ d
      · refine .inr ⟨d - u, by omega, ?_⟩
        rw [e5, Nat.mul_assoc, ← Nat.pow_add, show u + (d - u) = d by omega]
      · refine .inl ⟨u - d, by omega, ?_⟩
        rw [e5, Nat.mul_assoc, ← Nat.pow_add, show d + (u - d) = u by omega])
  show double.nearest _ _ _ = _
  rw [show (neg ^^ false) = neg by simp] at this ⊢
  rw [← this]
  simp
  congr 1
  omega
theorem div_num {y : Nat} (hy : isNan y = false) : ∃ z, double.div y 0x4000000000000000 = some z ∧ isNan z = false ∧ z < 2 ^ 64 := by
  have h2 := rep_two.read false
  rw [word_false] at h2
  unfold Format.div
  rw [h2]
  have hy' : y % 2 ^ 63 ≤ 2047 * 2 ^ 52 := by simpa [isNan] using hy
  by_cases hf : y % 2 ^ 63 < 2047 * 2 ^ 52
  · rw [read_fin hf]
    unfold Datum.quotient
    have hn : ¬ ((2 : Nat) ^ 52 = 0) := by decide
    simp only [hn, if_false, Option.map_some]
    refine ⟨_, rfl, ?_⟩
    show isNan (double.nearest _ _ _) = false ∧ double.nearest _ _ _ < 2 ^ 64
    obtain ⟨z, e, hz⟩ := near_num (sgn y ^^ false) (2 * (fM (y % 2 ^ 63) <<< (double.fractionBits + 2 + (2 ^ 52 : Nat).log2 - (fM (y % 2 ^ 63)).log2) / 2 ^ 52) + (fM (y % 2 ^ 63) <<< (double.fractionBits + 2 + (2 ^ 52 : Nat).log2 - (fM (y % 2 ^ 63)).log2) % 2 ^ 52 != 0).toNat) ((fK (y % 2 ^ 63) : Int) - 1074 - (((1023 : Nat) : Int) - 1074) - ((double.fractionBits + 2 + (2 ^ 52 : Nat).log2 - (fM (y % 2 ^ 63)).log2 : Nat) : Int) - 1)
    rw [e]
    exact word_nan _ hz
  · rw [read_inf (by omega)]
    unfold Datum.quotient
    simp only [Option.map_some]
    exact ⟨_, rfl, by show isNan (double.word _ _) = false ∧ double.word _ _ < 2 ^ 64; exact word_nan _ (by rw [inr]; omega)⟩
end Go.Fl
/- Floating numbers, plainly: the fields of their words. -/
namespace Go.Fl
open Ieee

/-- A word's sign, its exponent's field, its fraction's. -/
abbrev w3 (s E l : Nat) : Nat := 2 ^ 52 * (2 ^ 11 * s + E) + l
theorem w3_bit {s E l : Nat} (hE : E < 2 ^ 11) (hl : l < 2 ^ 52) (j : Nat) : (w3 s E l).testBit j = if j < 52 then l.testBit j else if j - 52 < 11 then E.testBit (j - 52) else s.testBit (j - 52 - 11) := by
  rw [Nat.testBit_two_pow_mul_add _ hl, Nat.testBit_two_pow_mul_add _ hE]
theorem w3_of (x : Nat) : x = w3 (x / 2 ^ 63) (x / 2 ^ 52 % 2 ^ 11) (x % 2 ^ 52) := by
  unfold w3
  have h1 := Nat.div_add_mod x (2 ^ 52)
  have h2 := Nat.div_add_mod (x / 2 ^ 52) (2 ^ 11)
  have h3 : x / 2 ^ 63 = x / 2 ^ 52 / 2 ^ 11 := by rw [Nat.div_div_eq_div_mul, ← Nat.pow_add]
  rw [h3, h2, h1]
theorem w3_lt {s E l : Nat} (hs : s < 2) (hE : E < 2 ^ 11) (hl : l < 2 ^ 52) : w3 s E l < 2 ^ 64 := by unfold w3; omega
theorem bit_hi {n k j : Nat} (h : n < 2 ^ k) (hj : k ≤ j) : n.testBit j = false := Nat.testBit_lt_two_pow (Nat.lt_of_lt_of_le h (Nat.pow_le_pow_right (by decide) hj))
theorem expMask_bit (j : Nat) : (9218868437227405312 : Nat).testBit j = (decide (52 ≤ j) && decide (j < 63)) := by
  have e : (9218868437227405312 : Nat) = w3 0 2047 0 := by decide
  rw [e, w3_bit (by decide) (by decide)]
  have h2047 : ∀ i, i < 11 → (2047 : Nat).testBit i = true := by decide
  by_cases h1 : j < 52
  · rw [if_pos h1]; simp; omega
  · rw [if_neg h1]
    by_cases h2 : j - 52 < 11
    · rw [if_pos h2, h2047 _ h2]; simp; omega
    · rw [if_neg h2]; simp; omega
/-- Without the exponent's field. -/
theorem andnot_exp {s E l : Nat} (hs : s < 2) (hE : E < 2 ^ 11) (hl : l < 2 ^ 52) : (BitVec.ofNat 64 (w3 s E l) &&& ~~~ BitVec.ofNat 64 9218868437227405312).toNat = w3 s 0 l := by
  have hlt := w3_lt hs hE hl
  have hlt2 := w3_lt hs (show 0 < 2 ^ 11 by decide) hl
  apply Nat.eq_of_testBit_eq
  intro j
  rw [BitVec.toNat_and, Nat.testBit_and, BitVec.toNat_not, BitVec.toNat_ofNat, BitVec.toNat_ofNat, Nat.mod_eq_of_lt hlt, Nat.mod_eq_of_lt (by decide), show (2 ^ 64 - 1 - 9218868437227405312 : Nat) = 2 ^ 64 - (9218868437227405312 + 1) from rfl, Nat.testBit_two_pow_sub_succ (by decide), expMask_bit, w3_bit hE hl, w3_bit (by decide) hl]
  by_cases h1 : j < 52
  · rw [if_pos h1, if_pos h1]
    have : decide (j < 64) = true := by simp; omega
    simp [this]
    omega
  · rw [if_neg h1, if_neg h1]
    by_cases h2 : j - 52 < 11
    · rw [if_pos h2, if_pos h2]
      have h3 : decide (52 ≤ j) = true := by simp; omega
      have h4 : decide (j < 63) = true := by simp; omega
      simp [h3, h4]
    · rw [if_neg h2, if_neg h2]
      have h4 : decide (j < 63) = false := by simp; omega
      by_cases h5 : j < 64
      · simp [h4, h5]
      · have : s.testBit (j - 52 - 11) = false := bit_hi (k := 1) (by omega) (by omega)
        simp [this]
/-- With an exponent's field. -/
theorem or_exp {s E l : Nat} (hE : E < 2 ^ 11) (hl : l < 2 ^ 52) : w3 s 0 l ||| E * 2 ^ 52 = w3 s E l := by
  apply Nat.eq_of_testBit_eq
  intro j
  have e : E * 2 ^ 52 = w3 0 E 0 := by unfold w3; omega
  rw [Nat.testBit_or, e, w3_bit hE (by decide), w3_bit hE hl, w3_bit (by decide) hl]
  by_cases h1 : j < 52
  · simp [h1]
  · by_cases h2 : j - 52 < 11
    · simp [h1, h2]
    · simp [h1, h2]
/-- Without the sign. -/
theorem andnot_sign {x : Nat} (hx : x < 2 ^ 64) : (BitVec.ofNat 64 x &&& ~~~ BitVec.ofNat 64 9223372036854775808).toNat = x % 2 ^ 63 := by
  apply Nat.eq_of_testBit_eq
  intro j
  have e : (9223372036854775808 : Nat) = 2 ^ 63 := by decide
  rw [BitVec.toNat_and, Nat.testBit_and, BitVec.toNat_not, BitVec.toNat_ofNat, BitVec.toNat_ofNat, Nat.mod_eq_of_lt hx, Nat.mod_eq_of_lt (by decide), show (2 ^ 64 - 1 - 9223372036854775808 : Nat) = 2 ^ 64 - (9223372036854775808 + 1) from rfl, Nat.testBit_two_pow_sub_succ (by decide), e, Nat.testBit_two_pow, Nat.testBit_mod_two_pow]
  by_cases h1 : j < 63
  · have h2 : decide (j < 64) = true := by simp; omega
    have h3 : decide (63 = j) = false := by simp; omega
    simp [h1, h2, h3]
  · have : decide (j < 63) = false := by simp; omega
    rw [this]
    by_cases h4 : j = 63
    · subst h4; simp
    · rw [bit_hi hx (by omega)]; simp
theorem and_sign {x : Nat} : x &&& 9223372036854775808 = if sgn x then 2 ^ 63 else 0 := by
  apply Nat.eq_of_testBit_eq
  intro j
  have e : (9223372036854775808 : Nat) = 2 ^ 63 := by decide
  have hs : x.testBit 63 = sgn x := by unfold sgn; rw [Nat.testBit_eq_decide_div_mod_eq]; rfl
  rw [Nat.testBit_and, e, Nat.testBit_two_pow]
  by_cases h : 63 = j
  · subst h
    rw [hs]
    cases sgn x
    · simp
    · rw [if_pos rfl, Nat.testBit_two_pow]; simp
  · cases sgn x
    · simp [h]
    · rw [if_pos rfl, Nat.testBit_two_pow]; simp [h]
theorem or_sign {x : Nat} (hx : x < 2 ^ 63) (neg : Bool) : x ||| (if neg then 2 ^ 63 else 0) = double.word neg x := by
  unfold Format.word
  rw [wt]
  cases neg with
  | false => simp
  | true =>
    simp only [if_true]
    have := Nat.two_pow_add_eq_or_of_lt (i := 63) hx 1
    rw [Nat.mul_one] at this
    rw [this, Nat.or_comm]
/-- A finite word of a normal number: its fields. -/
theorem Rep.w3 {neg : Bool} {r K M : Nat} (h : Rep r K M) (hM : 2 ^ 52 ≤ M) : double.word neg r = Fl.w3 neg.toNat (K + 1) (M - 2 ^ 52) := by
  have e := h.eq
  unfold Format.word Fl.w3
  rw [wt]
  cases neg <;> simp <;> omega
end Go.Fl
/- Go's package math, as far as Ratio calls it: Abs, IsNaN, IsInf, Signbit, Inf, NaN, Copysign. -/
namespace Go.Proofs.YtejleplhmkmegaaGreatDoor
set_option linter.unusedVariables false
set_option linter.unusedSimpArgs false
set_option maxRecDepth 100000
open Go.ChangeShapes Go.WideShapes Go.ChangeAt Go.RowKit Go.Fl

theorem f64_format : FloatKind.f64.format = Ieee.double := rfl
/-- Is one below another, as Go's '<' says? -/
def ltB (a b : Nat) : Bool := !isNan a && !isNan b && decide (skey a < skey b)
def eqB (a b : Nat) : Bool := !isNan a && !isNan b && decide (skey a = skey b)
theorem ord_lt (a b : Nat) : (FloatKind.f64.format.order a b == some .lt) = ltB a b := by
  rw [f64_format]
  unfold ltB
  cases h1 : isNan a with
  | true => rw [order_nan (.inl h1)]; simp
  | false =>
    cases h2 : isNan b with
    | true => rw [order_nan (.inr h2)]; simp
    | false =>
      rw [order_num h1 h2]
      rcases Int.lt_trichotomy (skey a) (skey b) with h | h | h
      · rw [Int.compare_eq_lt.2 h]; first | (simp [h]; done) | (simp; omega)
      · rw [Int.compare_eq_eq.2 h]; first | (simp [h]; done) | (simp; omega)
      · rw [Int.compare_eq_gt.2 h]; first | (simp [h]; done) | (simp; omega)
theorem ord_eq (a b : Nat) : (FloatKind.f64.format.order a b == some .eq) = eqB a b := by
  rw [f64_format]
  unfold eqB
  cases h1 : isNan a with
  | true => rw [order_nan (.inl h1)]; simp
  | false =>
    cases h2 : isNan b with
    | true => rw [order_nan (.inr h2)]; simp
    | false =>
      rw [order_num h1 h2]
      rcases Int.lt_trichotomy (skey a) (skey b) with h | h | h
      · rw [Int.compare_eq_lt.2 h]; first | (simp [h]; done) | (simp; omega)
      · rw [Int.compare_eq_eq.2 h]; first | (simp [h]; done) | (simp; omega)
      · rw [Int.compare_eq_gt.2 h]; first | (simp [h]; done) | (simp; omega)
theorem ord_gt (a b : Nat) : (FloatKind.f64.format.order a b == some .gt) = ltB b a := by
  rw [f64_format]
  unfold ltB
  cases h1 : isNan a with
  | true => rw [order_nan (.inl h1)]; simp
  | false =>
    cases h2 : isNan b with
    | true => rw [order_nan (.inr h2)]; simp
    | false =>
      rw [order_num h1 h2]
      rcases Int.lt_trichotomy (skey a) (skey b) with h | h | h
      · rw [Int.compare_eq_lt.2 h]; first | (simp [h]; done) | (simp; omega)
      · rw [Int.compare_eq_eq.2 h]; first | (simp [h]; done) | (simp; omega)
      · rw [Int.compare_eq_gt.2 h]; first | (simp [h]; done) | (simp; omega)
theorem ord_ne (a b : Nat) : (FloatKind.f64.format.order a b != some .eq) = !eqB a b := by rw [← ord_eq]; rfl
theorem eqB_self (a : Nat) : eqB a a = !isNan a := by unfold eqB; cases isNan a <;> simp
theorem bits_andNot (x c : Nat) (hx : x < 2 ^ 64) (hc : c < 2 ^ 64) : bits .andNot .u64 (x : Int) (c : Int) = (((BitVec.ofNat 64 x &&& ~~~ BitVec.ofNat 64 c).toNat : Nat) : Int) := by
  show IntKind.u64.wrap ((BitVec.ofInt 64 (x : Int) &&& ~~~ BitVec.ofInt 64 (c : Int)).toNat : Int) = _
  rw [BitVec.ofInt_natCast, BitVec.ofInt_natCast, IntKind.wrap_u64]
  have := (BitVec.ofNat 64 x &&& ~~~ BitVec.ofNat 64 c).isLt
  omega

theorem fbits_run (b : Nat) (w : World) : (callFunc 160 #[.float .f64 b]).run Tryz.prog w = .ok (.value (.int .u64 (b : Int))) w := by
  rw [@run_callFunc_extern Tryz.prog 160 _ Extern.MathFloatBits.float64bits Tryz.func160 (by kernel_rfl) (by kernel_rfl) (by kernel_rfl) (by kernel_rfl)]
  rfl
theorem frombits_run (b : Nat) (w : World) : (callFunc 143 #[.int .u64 (b : Int)]).run Tryz.prog w = .ok (.value (.float .f64 b)) w := by
  rw [@run_callFunc_extern Tryz.prog 143 _ Extern.MathFloatBits.float64frombits Tryz.func143 (by kernel_rfl) (by kernel_rfl) (by kernel_rfl) (by kernel_rfl)]
  rfl
theorem frombits_lit (b : Int) (w : World) : (callFunc 143 #[.int .u64 b]).run Tryz.prog w = .ok (.value (.float .f64 b.toNat)) w := by
  rw [@run_callFunc_extern Tryz.prog 143 _ Extern.MathFloatBits.float64frombits Tryz.func143 (by kernel_rfl) (by kernel_rfl) (by kernel_rfl) (by kernel_rfl)]
  rfl
attribute [local go_sem] fbits_run frombits_lit Int.toNat_natCast
theorem abs_any (b : Nat) (hb : b < 2 ^ 64) (w : World) : Calls Tryz.prog 90 #[.float .f64 b] w fun e w' => e = .returned (.float .f64 (b % 2 ^ 63)) ∧ w = w' := by
  have H := hid (show bits .andNot .u64 (b : Int) 9223372036854775808 = ((b % 2 ^ 63 : Nat) : Int) from (bits_andNot b 9223372036854775808 hb (by decide)).trans (by rw [andnot_sign hb]))
  obtain ⟨r, hr⟩ : ∃ r, b % 2 ^ 63 = r := ⟨_, rfl⟩
  rw [hr] at H ⊢
  have q := H.out
  clear hr
  go_enter Tryz.func90, Tryz.ntmps90
  go_wp2
  go_ret
  exact ⟨rfl, rfl⟩
theorem skey_pos {r : Nat} (h : r < 2 ^ 63) : skey r = (r : Int) := by
  unfold skey sgn
  rw [Nat.mod_eq_of_lt h, Nat.div_eq_of_lt h]
  simp
theorem nan_pos {r : Nat} (h : r < 2 ^ 63) : isNan r = decide (2047 * 2 ^ 52 < r) := by unfold isNan; rw [Nat.mod_eq_of_lt h]
/-- Is it infinite? -/
def isInfB (b : Nat) : Bool := decide (b % 2 ^ 63 = 2047 * 2 ^ 52)
theorem max_lt {r : Nat} (h : r < 2 ^ 63) : ltB 9218868437227405311 r = decide (r = 2047 * 2 ^ 52) := by
  unfold ltB
  rw [nan_pos h, skey_pos h, skey_pos (show 9218868437227405311 < 2 ^ 63 by decide), nan_pos (show 9218868437227405311 < 2 ^ 63 by decide)]
  rw [Bool.eq_iff_iff]
  simp
  omega
theorem isNaN_any (b : Nat) (w : World) : Calls Tryz.prog 208 #[.float .f64 b] w fun e w' => e = .returned (.bool (isNan b)) ∧ w = w' := by
  have H := ord_ne b b
  rw [eqB_self, Bool.not_not] at H
  go_enter Tryz.func208, Tryz.ntmps208
  go_wp2
  go_ret
  exact ⟨rfl, rfl⟩
theorem isInf_any (b : Nat) (hb : b < 2 ^ 64) (w : World) : Calls Tryz.prog 207 #[.float .f64 b, .int .i64 0] w fun e w' => e = .returned (.bool (isInfB b)) ∧ w = w' := by
  have H := ord_gt (b % 2 ^ 63) 9218868437227405311
  rw [max_lt (by omega)] at H
  have HA := hid (fun W => abs_any b hb W)
  unfold isInfB
  go_enter Tryz.func207, Tryz.ntmps207
  go_wp2_with (go_at_call 90; ((with_reducible refine (HA.out _).mono ?_); rintro e w1 ⟨rfl, rfl⟩))
  go_ret
  exact ⟨rfl, rfl⟩
theorem signbit_any (b : Nat) (hb : b < 2 ^ 64) (w : World) : Calls Tryz.prog 166 #[.float .f64 b] w fun e w' => e = .returned (.bool (sgn b)) ∧ w = w' := by
  have H : Hid (decide (wrap64 (b : Int) < 0) = sgn b) := by
    unfold Hid
    rw [Bool.eq_iff_iff]
    unfold sgn wrap64
    simp
    omega
  go_enter Tryz.func166, Tryz.ntmps166
  go_wp2
  all_goals
    go_ret
    exact ⟨by rw [← H.out]; rfl, rfl⟩
theorem inf_any (n : Int) (w : World) : Calls Tryz.prog 141 #[.int .i64 n] w fun e w' => e = .returned (.float .f64 (Ieee.double.word (decide (n < 0)) (2047 * 2 ^ 52))) ∧ w = w' := by
  by_cases h : n < 0
  · have h2 : ¬ 0 ≤ n := by omega
    rw [show decide (n < 0) = true by simp [h]]
    go_enter Tryz.func141, Tryz.ntmps141
    go_wp2
    go_ret
    exact ⟨rfl, rfl⟩
  · have h2 : 0 ≤ n := by omega
    rw [show decide (n < 0) = false by simp [h2]]
    go_enter Tryz.func141, Tryz.ntmps141
    go_wp2
    go_ret
    exact ⟨rfl, rfl⟩
theorem nan_any (w : World) : Calls Tryz.prog 140 #[] w fun e w' => e = .returned (.float .f64 9221120237041090561) ∧ w = w' := by
  go_enter Tryz.func140, Tryz.ntmps140
  go_wp2
  go_ret
  exact ⟨rfl, rfl⟩
theorem bits_or (x y : Nat) (hx : x < 2 ^ 64) (hy : y < 2 ^ 64) : bits .or .u64 (x : Int) (y : Int) = ((x ||| y : Nat) : Int) := bits_or_u64_nat x y hx hy
theorem bits_and (x y : Nat) (hx : x < 2 ^ 64) (hy : y < 2 ^ 64) : bits .and .u64 (x : Int) (y : Int) = ((x &&& y : Nat) : Int) := bits_and_u64_nat x y hx hy
theorem copysign_any (a b : Nat) (ha : a < 2 ^ 64) (hb : b < 2 ^ 64) (w : World) : Calls Tryz.prog 157 #[.float .f64 a, .float .f64 b] w fun e w' => e = .returned (.float .f64 (Ieee.double.word (sgn b) (a % 2 ^ 63))) ∧ w = w' := by
  have q1 : bits .andNot .u64 (a : Int) 9223372036854775808 = ((a % 2 ^ 63 : Nat) : Int) := (bits_andNot a 9223372036854775808 ha (by decide)).trans (by rw [andnot_sign ha])
  have q2 : bits .and .u64 (b : Int) 9223372036854775808 = (((if sgn b then 2 ^ 63 else 0) : Nat) : Int) := (bits_and b 9223372036854775808 hb (by decide)).trans (by rw [and_sign])
  have q3 : bits .or .u64 ((a % 2 ^ 63 : Nat) : Int) (((if sgn b then 2 ^ 63 else 0) : Nat) : Int) = ((Ieee.double.word (sgn b) (a % 2 ^ 63) : Nat) : Int) := (bits_or _ _ (by omega) (by split <;> decide)).trans (by rw [or_sign (by omega)])
  generalize (if sgn b then 2 ^ 63 else 0 : Nat) = s at *
  generalize Ieee.double.word (sgn b) (a % 2 ^ 63) = z at *
  generalize a % 2 ^ 63 = r at *
  go_enter Tryz.func157, Tryz.ntmps157
  go_wp2
  go_ret
  exact ⟨rfl, rfl⟩
end Go.Proofs.YtejleplhmkmegaaGreatDoor
/- Go's package math, as far as Ratio calls it: Ldexp. -/
namespace Go.Proofs.YtejleplhmkmegaaGreatDoor
set_option linter.unusedVariables false
set_option linter.unusedSimpArgs false
set_option maxRecDepth 100000
open Go.ChangeShapes Go.WideShapes Go.ChangeAt Go.RowKit Go.Fl
attribute [local go_sem] fbits_run frombits_lit Int.toNat_natCast ord_lt ord_eq ord_gt ord_ne

theorem word_num {neg : Bool} {r K M : Nat} (h : Rep r K M) : isNan (Ieee.double.word neg r) = false ∧ isInfB (Ieee.double.word neg r) = false ∧ skey (Ieee.double.word neg r) = sval neg r ∧ Ieee.double.word neg r < 2 ^ 64 ∧ Ieee.double.word neg r % 2 ^ 63 = r := by
  obtain ⟨h1, h2, h3⟩ := h.word neg
  have h4 := h.lt
  refine ⟨?_, ?_, ?_, h3, h1⟩
  · unfold isNan; rw [h1]; simp; omega
  · unfold isInfB; rw [h1]; simp; omega
  · rw [skey_eq, h1, h2]
theorem eq_zero {neg : Bool} {r K M : Nat} (h : Rep r K M) : eqB (Ieee.double.word neg r) 0 = false := by
  obtain ⟨h1, _, h3, _⟩ := word_num (neg := neg) h
  unfold eqB
  rw [h3, skey_pos (by decide)]
  have := h.pos'
  unfold sval
  cases neg <;> simp <;> intros <;> omega
theorem lt_small {r : Nat} (h : r ≤ 2047 * 2 ^ 52) : ltB r 4503599627370496 = decide (r < 2 ^ 52) := by
  unfold ltB
  rw [nan_pos (show r < 2 ^ 63 by omega), nan_pos (by decide), skey_pos (by omega), skey_pos (by decide), Bool.eq_iff_iff]
  simp
  omega
theorem normalize_norm {neg : Bool} {r K M : Nat} (h : Rep r K M) (hM : 2 ^ 52 ≤ M) (w : World) : Calls Tryz.prog 209 #[.float .f64 (Ieee.double.word neg r)] w fun e w' => e = .returned (.tuple #[.float .f64 (Ieee.double.word neg r), .int .i64 0]) ∧ w = w' := by
  obtain ⟨h1, h2, h3, h4, h5⟩ := word_num (neg := neg) h
  have HA := hid (fun W => abs_any _ h4 W)
  rw [h5] at HA
  have h6 := h.lt
  have q := lt_small (show r ≤ 2047 * 2 ^ 52 by omega)
  rw [show decide (r < 2 ^ 52) = false by simp; have := h.eq; omega] at q
  generalize Ieee.double.word neg r = x at *
  go_enter Tryz.func209, Tryz.ntmps209
  go_wp2_with (go_at_call 90; ((with_reducible refine (HA.out _).mono ?_); rintro e w1 ⟨rfl, rfl⟩))
  go_ret2
  exact ⟨rfl, rfl⟩

theorem and_2047 (a : Nat) (ha : a < 9223372036854775808) : bits .and .i64 (a : Int) 2047 = ((a % 2048 : Nat) : Int) := by
  show IntKind.i64.wrap ((BitVec.ofInt 64 (a : Int) &&& BitVec.ofInt 64 2047).toNat : Int) = _
  rw [BitVec.ofInt_natCast, show BitVec.ofInt 64 2047 = BitVec.ofNat 64 2047 from rfl, BitVec.toNat_and, BitVec.toNat_ofNat, BitVec.toNat_ofNat, Nat.mod_eq_of_lt (by omega : a < 2 ^ 64), show (2047 : Nat) % 2 ^ 64 = 2 ^ 11 - 1 from rfl, Nat.and_two_pow_sub_one_eq_mod]
  rw [IntKind.wrap_i64]
  omega
theorem field_of {s E l : Nat} (hs : s < 2) (hE : E < 2 ^ 11) (hl : l < 2 ^ 52) : bits .and .i64 (((w3 s E l : Nat) : Int) / 4503599627370496) 2047 = (E : Int) := by
  have e : ((w3 s E l : Nat) : Int) / 4503599627370496 = ((2 ^ 11 * s + E : Nat) : Int) := by unfold w3; omega
  rw [e, and_2047 _ (by omega)]
  congr 1
  omega
/-- What the result must be, where the format has it. -/
def LdPost (neg : Bool) (K M : Nat) (n : Int) (w : World) (e : Ending) (w' : World) : Prop :=
  (∃ z, e = .returned (.float .f64 z) ∧ isNan z = false ∧ z < 2 ^ 64 ∧ ∀ {t J I : Nat}, Rep t J I → Same2 M ((K : Int) + n) J I → z = Ieee.double.word neg t) ∧ w = w'
set_option maxHeartbeats 1000000 in
theorem ldexp_far (neg : Bool) {r K M : Nat} (h : Rep r K M) (hM : 2 ^ 52 ≤ M) (n : Int) (hn : -3000 ≤ n ∧ n ≤ 3000) (hf : n + K < -53 ∨ 2045 < n + K) (w : World) :
    Calls Tryz.prog 162 #[.float .f64 (Ieee.double.word neg r), .int .i64 n] w (LdPost neg K M n w) := by
  obtain ⟨h1, h2, h3, h4, h5⟩ := word_num (neg := neg) h
  have q0 := eq_zero (neg := neg) h
  have HI := hid (fun W => isInf_any _ h4 W)
  rw [h2] at HI
  have HNN := hid (fun W => isNaN_any (Ieee.double.word neg r) W)
  rw [h1] at HNN
  have HNO := hid (fun W => normalize_norm (neg := neg) h hM W)
  have HCS := hid (fun W => copysign_any 0 _ (by decide) h4 W)
  have hw := h.w3 (neg := neg) hM
  have hK : K + 1 < 2 ^ 11 := by have := h.fin; omega
  have hl : M - 2 ^ 52 < 2 ^ 52 := by have := h.m; omega
  have hs : neg.toNat < 2 := by cases neg <;> decide
  obtain ⟨E, hE⟩ : ∃ E : Int, E = ((K + 1 : Nat) : Int) := ⟨_, rfl⟩
  have qE : bits .and .i64 ((Ieee.double.word neg r : Int) / 4503599627370496) 2047 = E := by rw [hw, hE]; exact field_of hs hK hl
  have hx : Ieee.double.word neg r ≤ 18446744073709551615 := by omega
  have hE2 : 1 ≤ E ∧ E ≤ 2047 := by omega
  have hnone : ∀ (t J I : Nat), Rep t J I → Same2 M ((K : Int) + n) J I → False := fun t J I ht hv => by
    have m1 := h.m; have m2 := ht.m; have p1 := ht.pos; have f1 := ht.fin; have k1 := ht.k
    rcases hv with ⟨d, e1, e2⟩ | ⟨d, e1, e2⟩
    · rcases hf with hf | hf
      · have hd : 54 ≤ d := by omega
        have : 2 ^ 54 ≤ 2 ^ d := Nat.pow_le_pow_right (by decide) hd
        have : 1 * 2 ^ d ≤ I * 2 ^ d := Nat.mul_le_mul_right _ p1
        omega
      · omega
    · rcases hf with hf | hf
      · omega
      · have hd : 1 ≤ d := by omega
        have : 2 ^ 1 ≤ 2 ^ d := Nat.pow_le_pow_right (by decide) hd
        have : M * 2 ^ 1 ≤ M * 2 ^ d := Nat.mul_le_mul_left _ this
        omega
  have HNONE := hid hnone
  have q1 : ltB (Ieee.double.word neg r) 0 = neg := by
    unfold ltB
    rw [h1, h3, skey_pos (by decide)]
    have := h.pos'
    unfold sval isNan
    cases neg <;> simp <;> omega
  have hf1 : n + (E - 1023) < -1075 ∨ 1023 < n + (E - 1023) := by omega
  have H2 := hid (h.word neg).2.1
  have s1 := hid (word_nan neg (r := 2047 * 2 ^ 52) (by decide))
  have s2 := hid (word_nan neg (r := 0) (by decide))
  clear hw h hM h5 h3 hK hl hs h4 hE hf hnone
  have HNI := hid (fun W => inf_any (-1) W)
  have HPI := hid (fun W => inf_any 1 W)
  rw [H2.out] at HCS
  generalize Ieee.double.word neg r = x at *
  rcases hf1 with hf | hf
  · go_enter Tryz.func162, Tryz.ntmps162
    go_wp2_with (first
      | (go_at_call 207; ((with_reducible refine (HI.out _).mono ?_); rintro e w1 ⟨rfl, rfl⟩))
      | (go_at_call 208; ((with_reducible refine (HNN.out _).mono ?_); rintro e w1 ⟨rfl, rfl⟩))
      | (go_at_call 157; ((with_reducible refine (HCS.out _).mono ?_); rintro e w1 ⟨rfl, rfl⟩))
      | (go_at_call 209; ((with_reducible refine (HNO.out _).mono ?_); rintro e w1 ⟨rfl, rfl⟩)))
    go_ret
    exact ⟨⟨_, rfl, s2.out.1, s2.out.2, fun a b => (HNONE.out _ _ _ a b).elim⟩, rfl⟩
  · have hf2 : ¬ n + (E - 1023) < -1075 := by omega
    cases neg
    all_goals
      go_enter Tryz.func162, Tryz.ntmps162
      go_wp2_with (first
        | (go_at_call 207; ((with_reducible refine (HI.out _).mono ?_); rintro e w1 ⟨rfl, rfl⟩))
        | (go_at_call 208; ((with_reducible refine (HNN.out _).mono ?_); rintro e w1 ⟨rfl, rfl⟩))
        | (go_at_call 141; first | ((with_reducible refine (HNI.out _).mono ?_); rintro e w1 ⟨rfl, rfl⟩) | ((with_reducible refine (HPI.out _).mono ?_); rintro e w1 ⟨rfl, rfl⟩))
        | (go_at_call 209; ((with_reducible refine (HNO.out _).mono ?_); rintro e w1 ⟨rfl, rfl⟩)))
      go_ret
      exact ⟨⟨_, rfl, s1.out.1, s1.out.2, fun a b => (HNONE.out _ _ _ a b).elim⟩, rfl⟩
set_option maxHeartbeats 1000000 in
theorem ldexp_norm (neg : Bool) {r K M : Nat} (h : Rep r K M) (hM : 2 ^ 52 ≤ M) (n : Int) (hn : -3000 ≤ n ∧ n ≤ 3000) (J : Nat) (hJ : (J : Int) = n + K) (hJ2 : J ≤ 2045) (w : World) :
    Calls Tryz.prog 162 #[.float .f64 (Ieee.double.word neg r), .int .i64 n] w fun e w' => e = .returned (.float .f64 (Ieee.double.word neg (J * 2 ^ 52 + M))) ∧ w = w' := by
  obtain ⟨h1, h2, h3, h4, h5⟩ := word_num (neg := neg) h
  have q0 := eq_zero (neg := neg) h
  have HI := hid (fun W => isInf_any _ h4 W)
  rw [h2] at HI
  have HNN := hid (fun W => isNaN_any (Ieee.double.word neg r) W)
  rw [h1] at HNN
  have HNO := hid (fun W => normalize_norm (neg := neg) h hM W)
  have hw := h.w3 (neg := neg) hM
  have hm := h.m
  have hK : K + 1 < 2 ^ 11 := by have := h.fin; omega
  have hl : M - 2 ^ 52 < 2 ^ 52 := by omega
  have hs : neg.toNat < 2 := by cases neg <;> decide
  obtain ⟨E, hE⟩ : ∃ E : Int, E = ((K + 1 : Nat) : Int) := ⟨_, rfl⟩
  have qE : bits .and .i64 ((Ieee.double.word neg r : Int) / 4503599627370496) 2047 = E := by rw [hw, hE]; exact field_of hs hK hl
  have hx : Ieee.double.word neg r ≤ 18446744073709551615 := by omega
  have hE2 : 1 ≤ E ∧ E ≤ 2047 := by omega
  have hj : Rep (J * 2 ^ 52 + M) J M := ⟨rfl, hm, .inr hM, by omega, by omega⟩
  have hz := hj.w3 (neg := neg) hM
  have qA : bits .andNot .u64 ((Ieee.double.word neg r : Nat) : Int) 9218868437227405312 = ((w3 neg.toNat 0 (M - 2 ^ 52) : Nat) : Int) := by
    rw [hw]
    exact (bits_andNot _ 9218868437227405312 (w3_lt hs hK hl) (by decide)).trans (by rw [andnot_exp hs hK hl])
  have qO : bits .or .u64 ((w3 neg.toNat 0 (M - 2 ^ 52) : Nat) : Int) ((((J + 1) * 2 ^ 52 : Nat) : Int)) = ((Ieee.double.word neg (J * 2 ^ 52 + M) : Nat) : Int) := by
    rw [hz]
    exact (bits_or _ _ (w3_lt hs (by decide) hl) (by omega)).trans (by rw [or_exp (by omega) hl])
  have q1 := mul_one (neg := neg) hj
  have hf1 : ¬ n + (E - 1023) < -1075 := by omega
  have hf2 : ¬ 1023 < n + (E - 1023) := by omega
  have hf3 : ¬ n + (E - 1023) < -1022 := by omega
  have hJ3 : n + (E - 1023) + 1023 = (J : Int) + 1 := by omega
  have qP : bits .or .u64 ((w3 neg.toNat 0 (M - 2 ^ 52) : Nat) : Int) ((n + (E - 1023) + 1023) * 4503599627370496) = ((Ieee.double.word neg (J * 2 ^ 52 + M) : Nat) : Int) := by
    rw [← qO, hJ3]
    congr 1
  have qM : ∀ W : World, (binOp .mul 61 (.float .f64 4607182418800017408) (.float .f64 (Ieee.double.word neg (J * 2 ^ 52 + M)))).run Tryz.prog W = .ok (.float .f64 (Ieee.double.word neg (J * 2 ^ 52 + M))) W := fun W => run_float_arith W .mul _ .f64 _ _ _ q1
  clear hw h hM h5 h3 hK hl hs h4 hE hm hj hz qO hJ hJ3 q1
  generalize Ieee.double.word neg r = x at *
  generalize Ieee.double.word neg (J * 2 ^ 52 + M) = z at *
  generalize w3 neg.toNat 0 (M - 2 ^ 52) = y at *
  go_enter Tryz.func162, Tryz.ntmps162
  go_wp2_with (first
    | (go_at_call 207; ((with_reducible refine (HI.out _).mono ?_); rintro e w1 ⟨rfl, rfl⟩))
    | (go_at_call 208; ((with_reducible refine (HNN.out _).mono ?_); rintro e w1 ⟨rfl, rfl⟩))
    | (go_at_call 209; ((with_reducible refine (HNO.out _).mono ?_); rintro e w1 ⟨rfl, rfl⟩)))
  go_ret
  exact ⟨rfl, rfl⟩
set_option maxHeartbeats 1000000 in
theorem ldexp_den (neg : Bool) {r K M : Nat} (h : Rep r K M) (hM : 2 ^ 52 ≤ M) (n : Int) (hn : -3000 ≤ n ∧ n ≤ 3000) (J : Nat) (hJ : (J : Int) = n + K + 53) (hJ2 : J < 53) (w : World) :
    Calls Tryz.prog 162 #[.float .f64 (Ieee.double.word neg r), .int .i64 n] w (LdPost neg K M n w) := by
  obtain ⟨h1, h2, h3, h4, h5⟩ := word_num (neg := neg) h
  have q0 := eq_zero (neg := neg) h
  have HI := hid (fun W => isInf_any _ h4 W)
  rw [h2] at HI
  have HNN := hid (fun W => isNaN_any (Ieee.double.word neg r) W)
  rw [h1] at HNN
  have HNO := hid (fun W => normalize_norm (neg := neg) h hM W)
  have hw := h.w3 (neg := neg) hM
  have hm := h.m
  have hK : K + 1 < 2 ^ 11 := by have := h.fin; omega
  have hl : M - 2 ^ 52 < 2 ^ 52 := by omega
  have hs : neg.toNat < 2 := by cases neg <;> decide
  obtain ⟨E, hE⟩ : ∃ E : Int, E = ((K + 1 : Nat) : Int) := ⟨_, rfl⟩
  have qE : bits .and .i64 ((Ieee.double.word neg r : Int) / 4503599627370496) 2047 = E := by rw [hw, hE]; exact field_of hs hK hl
  have hx : Ieee.double.word neg r ≤ 18446744073709551615 := by omega
  have hE2 : 1 ≤ E ∧ E ≤ 2047 := by omega
  have hj : Rep (J * 2 ^ 52 + M) J M := ⟨rfl, hm, .inr hM, by omega, by omega⟩
  have hz := hj.w3 (neg := neg) hM
  have qA : bits .andNot .u64 ((Ieee.double.word neg r : Nat) : Int) 9218868437227405312 = ((w3 neg.toNat 0 (M - 2 ^ 52) : Nat) : Int) := by
    rw [hw]
    exact (bits_andNot _ 9218868437227405312 (w3_lt hs hK hl) (by decide)).trans (by rw [andnot_exp hs hK hl])
  have qO : bits .or .u64 ((w3 neg.toNat 0 (M - 2 ^ 52) : Nat) : Int) ((((J + 1) * 2 ^ 52 : Nat) : Int)) = ((Ieee.double.word neg (J * 2 ^ 52 + M) : Nat) : Int) := by
    rw [hz]
    exact (bits_or _ _ (w3_lt hs (by decide) hl) (by omega)).trans (by rw [or_exp (by omega) hl])
  obtain ⟨Z, q1, qz, qz2⟩ := mul_num (c := 4368491638549381120) (neg := false) rep_m53 (by decide) (word_num (neg := neg) hj).1
  have hrep : ∀ (t L I : Nat), Rep t L I → Same2 M ((K : Int) + n) L I → Z = Ieee.double.word neg t := fun t L I ht hv => by
    have := mul_rep (n1 := false) (n2 := neg) rep_m53 hj ht (by
      rcases hv with ⟨d, e1, e2⟩ | ⟨d, e1, e2⟩
      · exact .inl ⟨d + 52, by omega, by rw [e2, Nat.pow_add, Nat.mul_comm, Nat.mul_assoc]⟩
      · exfalso; omega)
    rw [word_false, show Ieee.double.word neg (J * 2 ^ 52 + M) = _ from rfl] at this
    have e3 := q1.symm.trans this
    rw [show (false ^^ neg) = neg by simp] at e3
    exact Option.some.inj e3
  have hf1 : ¬ n + (E - 1023) < -1075 := by omega
  have hf2 : ¬ 1023 < n + (E - 1023) := by omega
  have hf3 : n + (E - 1023) < -1022 := by omega
  have hJ3 : n + (E - 1023) + 53 + 1023 = (J : Int) + 1 := by omega
  have qP : bits .or .u64 ((w3 neg.toNat 0 (M - 2 ^ 52) : Nat) : Int) ((n + (E - 1023) + 53 + 1023) * 4503599627370496) = ((Ieee.double.word neg (J * 2 ^ 52 + M) : Nat) : Int) := by
    rw [← qO, hJ3]
    congr 1
  have qM : ∀ W : World, (binOp .mul 61 (.float .f64 4368491638549381120) (.float .f64 (Ieee.double.word neg (J * 2 ^ 52 + M)))).run Tryz.prog W = .ok (.float .f64 Z) W := fun W => run_float_arith W .mul _ .f64 _ _ _ q1
  clear hw h hM h5 h3 hK hl hs h4 hE hm hj hz qO hJ hJ3 q1
  generalize Ieee.double.word neg r = x at *
  generalize Ieee.double.word neg (J * 2 ^ 52 + M) = z at *
  generalize w3 neg.toNat 0 (M - 2 ^ 52) = y at *
  go_enter Tryz.func162, Tryz.ntmps162
  go_wp2_with (first
    | (go_at_call 207; ((with_reducible refine (HI.out _).mono ?_); rintro e w1 ⟨rfl, rfl⟩))
    | (go_at_call 208; ((with_reducible refine (HNN.out _).mono ?_); rintro e w1 ⟨rfl, rfl⟩))
    | (go_at_call 209; ((with_reducible refine (HNO.out _).mono ?_); rintro e w1 ⟨rfl, rfl⟩)))
  go_ret
  exact ⟨⟨_, rfl, qz, qz2, fun a b => hrep _ _ _ a b⟩, rfl⟩
set_option maxHeartbeats 1000000 in
/-- Ldexp of a number whose digits are all there. -/
theorem ldexp_any (neg : Bool) {r K M : Nat} (h : Rep r K M) (hM : 2 ^ 52 ≤ M) (n : Int) (hn : -3000 ≤ n ∧ n ≤ 3000) (w : World) : Calls Tryz.prog 91 #[.float .f64 (Ieee.double.word neg r), .int .i64 n] w (LdPost neg K M n w) := by
  have HL : Hid (∀ W, Calls Tryz.prog 162 #[.float .f64 (Ieee.double.word neg r), .int .i64 n] W (LdPost neg K M n W)) := hid fun W => by
    by_cases h1 : n + K < -53 ∨ 2045 < n + K
    · exact ldexp_far neg h hM n hn h1 W
    · by_cases h2 : 0 ≤ n + K
      · obtain ⟨J, hJ⟩ := Int.eq_ofNat_of_zero_le h2
        refine (ldexp_norm neg h hM n hn J hJ.symm (by omega) W).mono ?_
        rintro e w' ⟨rfl, rfl⟩
        have hj : Rep (J * 2 ^ 52 + M) J M := ⟨rfl, h.m, .inr hM, by have := h.pos; omega, by have := h.m; omega⟩
        refine ⟨⟨_, rfl, (word_num hj).1, (word_num hj).2.2.2.1, fun {t L I} a b => ?_⟩, rfl⟩
        rw [Same2.uniq hj a (.inl ⟨0, by omega, by simp⟩) b]
      · obtain ⟨J, hJ⟩ := Int.eq_ofNat_of_zero_le (show 0 ≤ n + K + 53 by omega)
        exact ldexp_den neg h hM n hn J hJ.symm (by omega) W
  generalize Ieee.double.word neg r = x at *
  go_enter Tryz.func91, Tryz.ntmps91
  go_wp2_with (go_at_call 162; ((with_reducible refine (HL.out _).mono ?_); rintro e w1 ⟨⟨z, rfl, hz⟩, rfl⟩))
  go_ret
  exact ⟨⟨z, rfl, hz⟩, rfl⟩
end Go.Proofs.YtejleplhmkmegaaGreatDoor
/- Go's package math, as far as Ratio calls it: Frexp. -/
namespace Go.Proofs.YtejleplhmkmegaaGreatDoor
set_option linter.unusedVariables false
set_option linter.unusedSimpArgs false
set_option maxRecDepth 100000
open Go.ChangeShapes Go.WideShapes Go.ChangeAt Go.RowKit Go.Fl
attribute [local go_sem] fbits_run frombits_lit Int.toNat_natCast ord_lt ord_eq ord_gt ord_ne

/-- A number below the format's least normal one, moved up to 53 digits. -/
theorem up_53 {M : Nat} (h0 : 0 < M) (h1 : M < 2 ^ 52) : ∃ s, s ≤ 52 ∧ 0 < s ∧ 2 ^ 52 ≤ M * 2 ^ s ∧ M * 2 ^ s < 2 ^ 53 := by
  have l1 : 2 ^ M.log2 ≤ M := Nat.log2_self_le (by omega)
  have l2 : M < 2 ^ (M.log2 + 1) := Nat.lt_log2_self
  have l3 : M.log2 < 52 := (Nat.log2_lt (by omega)).2 h1
  refine ⟨52 - M.log2, by omega, by omega, ?_, ?_⟩
  · calc 2 ^ 52 = 2 ^ M.log2 * 2 ^ (52 - M.log2) := by rw [← Nat.pow_add]; congr 1; omega
      _ ≤ M * 2 ^ (52 - M.log2) := Nat.mul_le_mul_right _ l1
  · calc M * 2 ^ (52 - M.log2) < 2 ^ (M.log2 + 1) * 2 ^ (52 - M.log2) := Nat.mul_lt_mul_of_pos_right l2 (Nat.pow_pos (by decide))
      _ = 2 ^ 53 := by rw [← Nat.pow_add]; congr 1; omega
theorem normalize_den {r M : Nat} (h : Rep r 0 M) (hM : M < 2 ^ 52) {t s : Nat} (hs : s ≤ 52) (ht : Rep t (52 - s) (M * 2 ^ s)) (w : World) :
    Calls Tryz.prog 209 #[.float .f64 r] w fun e w' => e = .returned (.tuple #[.float .f64 t, .int .i64 (-52)]) ∧ w = w' := by
  obtain ⟨h1, h2, h3, h4, h5⟩ := word_num (neg := false) h
  rw [word_false] at h4 h5
  have HA := hid (fun W => abs_any _ h4 W)
  rw [h5] at HA
  have h6 := h.lt
  have q := lt_small (show r ≤ 2047 * 2 ^ 52 by omega)
  rw [show decide (r < 2 ^ 52) = true by simp; have := h.eq; omega] at q
  have hm : Ieee.double.mul r 4841369599423283200 = some t := by
    have := mul_rep (n1 := false) (n2 := false) h rep_p52 ht (.inl ⟨52 - s, by omega, by
      rw [Nat.mul_assoc, ← Nat.pow_add]; congr 2; omega⟩)
    exact this
  have qM : ∀ W : World, (binOp .mul 61 (.float .f64 r) (.float .f64 4841369599423283200)).run Tryz.prog W = .ok (.float .f64 t) W := fun W => run_float_arith W .mul _ .f64 _ _ _ hm
  clear h h1 h2 h3 h4 h5 h6 ht hM hs hm
  go_enter Tryz.func209, Tryz.ntmps209
  go_wp2_with (go_at_call 90; ((with_reducible refine (HA.out _).mono ?_); rintro e w1 ⟨rfl, rfl⟩))
  go_ret2
  exact ⟨rfl, rfl⟩
set_option maxHeartbeats 1000000 in
theorem frexp_core {r q K m : Nat} (c : Int) (hq : Rep q K m) (hm : 2 ^ 52 ≤ m) (hr0 : eqB r 0 = false) (hri : isInfB r = false) (hrn : isNan r = false) (hrb : r < 2 ^ 64) (hc : -52 ≤ c ∧ c ≤ 0)
    (HN : ∀ W, Calls Tryz.prog 209 #[.float .f64 r] W fun e w' => e = .returned (.tuple #[.float .f64 q, .int .i64 c]) ∧ W = w') (w : World) :
    Calls Tryz.prog 159 #[.float .f64 r] w fun e w' => e = .returned (.tuple #[.float .f64 (1021 * 2 ^ 52 + m), .int .i64 (c + K - 1021)]) ∧ w = w' := by
  have HI := hid (fun W => isInf_any r hrb W)
  rw [hri] at HI
  have HNN := hid (fun W => isNaN_any r W)
  rw [hrn] at HNN
  have HNO := hid HN
  have hw := hq.w3 (neg := false) hm
  rw [word_false] at hw
  have hK : K + 1 < 2 ^ 11 := by have := hq.fin; omega
  have hl : m - 2 ^ 52 < 2 ^ 52 := by have := hq.m; omega
  have hs : false.toNat < 2 := by decide
  have hqlt : q < 2 ^ 63 := by have := hq.lt; omega
  have qE : bits .and .u64 ((q : Int) / 4503599627370496) 2047 = (K : Int) + 1 := by
    have e : (q : Int) / 4503599627370496 = ((K + 1 : Nat) : Int) := by rw [hw]; unfold w3; simp; omega
    rw [e]
    have := bits_and (K + 1) 2047 (by omega) (by decide)
    rw [show (2047 : Nat) = 2 ^ 11 - 1 by decide, Nat.and_two_pow_sub_one_eq_mod, Nat.mod_eq_of_lt hK] at this
    exact this
  have qA : bits .andNot .u64 (q : Int) 9218868437227405312 = ((w3 false.toNat 0 (m - 2 ^ 52) : Nat) : Int) := by
    rw [hw]
    exact (bits_andNot _ 9218868437227405312 (w3_lt hs hK hl) (by decide)).trans (by rw [andnot_exp hs hK hl])
  have qO : bits .or .u64 ((w3 false.toNat 0 (m - 2 ^ 52) : Nat) : Int) 4602678819172646912 = ((1021 * 2 ^ 52 + m : Nat) : Int) := by
    have := (bits_or (w3 false.toNat 0 (m - 2 ^ 52)) (1022 * 2 ^ 52) (w3_lt hs (by decide) hl) (by decide)).trans (by rw [or_exp (by decide) hl])
    refine Eq.trans this ?_
    unfold w3
    simp
    omega
  obtain ⟨E, hE⟩ : ∃ E : Int, (K : Int) + 1 = E := ⟨_, rfl⟩
  have hE1 : 0 ≤ E ∧ E ≤ 2047 := by omega
  rw [hE] at qE
  obtain ⟨Z, hZ⟩ : ∃ Z, 1021 * 2 ^ 52 + m = Z := ⟨_, rfl⟩
  rw [hZ] at qO ⊢
  generalize w3 false.toNat 0 (m - 2 ^ 52) = y at *
  have hfin : Hid (c + K - 1021 = c + (E - 1022)) := by unfold Hid; omega
  rw [hfin.out]
  have hx : (q : Int) ≤ 18446744073709551615 := by omega
  have q2 : E - 1023 + 1 = E - 1022 := by omega
  have q0 := hr0
  clear hq hm hr0 hri hrn hrb HN hw hK hl hs hE hZ hfin hqlt
  go_enter Tryz.func159, Tryz.ntmps159
  go_wp2_with (first
    | (go_at_call 207; ((with_reducible refine (HI.out _).mono ?_); rintro e w1 ⟨rfl, rfl⟩))
    | (go_at_call 208; ((with_reducible refine (HNN.out _).mono ?_); rintro e w1 ⟨rfl, rfl⟩))
    | (go_at_call 209; ((with_reducible refine (HNO.out _).mono ?_); rintro e w1 ⟨rfl, rfl⟩)))
  go_ret2
  exact ⟨rfl, rfl⟩
theorem frexp_any {r K M : Nat} (h : Rep r K M) : ∃ s m : Nat, m = M * 2 ^ s ∧ 2 ^ 52 ≤ m ∧ m < 2 ^ 53 ∧ ∀ w : World,
    Calls Tryz.prog 89 #[.float .f64 r] w fun e w' => e = .returned (.tuple #[.float .f64 (1021 * 2 ^ 52 + m), .int .i64 ((K : Int) - s - 1021)]) ∧ w = w' := by
  obtain ⟨h1, h2, h3, h4, h5⟩ := word_num (neg := false) h
  have q0 := eq_zero (neg := false) h
  rw [word_false] at h1 h2 h4 h5 q0
  have fin : ∀ (s m : Nat), (∀ W, Calls Tryz.prog 159 #[.float .f64 r] W fun e w' => e = .returned (.tuple #[.float .f64 (1021 * 2 ^ 52 + m), .int .i64 ((K : Int) - s - 1021)]) ∧ W = w') → ∀ w : World,
      Calls Tryz.prog 89 #[.float .f64 r] w fun e w' => e = .returned (.tuple #[.float .f64 (1021 * 2 ^ 52 + m), .int .i64 ((K : Int) - s - 1021)]) ∧ w = w' := by
    intro s m HF w
    replace HF := hid HF
    obtain ⟨Z, hZ⟩ : ∃ Z, 1021 * 2 ^ 52 + m = Z := ⟨_, rfl⟩
    obtain ⟨X, hX⟩ : ∃ X, (K : Int) - s - 1021 = X := ⟨_, rfl⟩
    rw [hZ, hX] at HF ⊢
    clear hZ hX q0 h1 h2 h3 h4 h5 h
    go_enter Tryz.func89, Tryz.ntmps89
    go_wp2_with (go_at_call 159; ((with_reducible refine (HF.out _).mono ?_); rintro e w1 ⟨rfl, rfl⟩))
    go_ret2
    exact ⟨rfl, rfl⟩
  by_cases hM : 2 ^ 52 ≤ M
  · refine ⟨0, M, by simp, hM, h.m, fin 0 M fun W => ?_⟩
    have := frexp_core 0 h hM q0 h2 h1 h4 (by decide) (fun W => normalize_norm (neg := false) h hM W) W
    rw [show (0 : Int) + K - 1021 = (K : Int) - (0 : Nat) - 1021 by omega] at this
    exact this
  · have hK : K = 0 := by have := h.k; omega
    subst hK
    have hp : 0 < M := by have := h.pos; omega
    obtain ⟨s, s1, s2, s3, s4⟩ := up_53 hp (by omega)
    have ht : Rep ((52 - s) * 2 ^ 52 + M * 2 ^ s) (52 - s) (M * 2 ^ s) := ⟨rfl, s4, .inr s3, by omega, by omega⟩
    refine ⟨s, M * 2 ^ s, rfl, s3, s4, fin s (M * 2 ^ s) fun W => ?_⟩
    have := frexp_core (-52) ht s3 q0 h2 h1 h4 (by decide) (fun W => normalize_den h (by omega) s1 ht W) W
    rw [show (-52 : Int) + ((52 - s : Nat) : Int) - 1021 = ((0 : Nat) : Int) - s - 1021 by omega] at this
    exact this
end Go.Proofs.YtejleplhmkmegaaGreatDoor
