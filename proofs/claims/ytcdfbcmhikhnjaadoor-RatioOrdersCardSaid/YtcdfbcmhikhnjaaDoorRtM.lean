/- Ratio: the reference's 'Num'. -/
import Derived.Test.YtcdfbcmhikhnjaaDoorRtL
import Derived.Test.YtcdfbcmhikhnjaaDoorFlT
import Derived.Laws.IdiomStrings
namespace Go.Proofs.YtcdfbcmhikhnjaaDoor
set_option linter.unusedVariables false
set_option linter.unusedSimpArgs false
set_option maxRecDepth 100000
open Go.ChangeShapes Go.WideShapes Go.ChangeAt Go.RowKit Go.Fl
open Go.Lib (decDigits itoa)

abbrev strL (l : List UInt8) : Value := .string ⟨l.toArray⟩
theorem conv_1 {w : World} {b : Nat} {m : Nat} (h : w.cell? ⟨b, 0, none⟩ = some (.int .u8 (m : Int))) (hm : m < 256) :
    (convert 111 9 (.slice (some ⟨b, 0, none⟩) 1 1)).run Tryd.prog w = .ok (strL [UInt8.ofNat m]) w := by
  refine run_convert_bytes_back (l := [UInt8.ofNat m]) w _ _ _ _ 1 Tryd.underlying111 Tryd.underlying5 Tryd.underlying9 (fun j hj => ?_)
  simp at hj
  subst hj
  simp [Addr.add, h, Nat.mod_eq_of_lt hm]
theorem strL_app (a b : List UInt8) : Value.string (({ data := a.toArray } : ByteArray) ++ { data := b.toArray }) = strL (a ++ b) := by
  congr 1
theorem dec_len : ∀ (k n : Nat), n < 10 ^ (k + 1) → (decDigits n).length ≤ k + 1
  | 0, n, h => by rw [decDigits, dif_pos (by simpa using h)]; simp
  | k + 1, n, h => by
    rw [decDigits]
    split
    · simp
    · have : n / 10 < 10 ^ (k + 1) := by rw [Nat.div_lt_iff_lt_mul (by decide), ← Nat.pow_succ]; exact h
      have := dec_len k _ this
      simpa using this
theorem dec_20 {n : Nat} (h : n < 2 ^ 64) : (decDigits n).length ≤ 20 := dec_len 19 n (by
  have : (10 : Nat) ^ 20 = 100000000000000000000 := by decide
  rw [this]; omega)
theorem rnum_pos : ∀ (N : Nat), N < 2 ^ 63 → ∀ w, Calls Tryd.prog 62 #[.int .i64 (N : Int)] w fun e w' => e = .returned (strL (decDigits N)) ∧ Below w.heap.size w w' := by
  intro N
  induction N using Nat.strongRecOn with
  | ind N ih =>
    intro hN w
    have hN2 : (N : Int) ≤ 9223372036854775807 := by omega
    obtain ⟨d, hd⟩ : ∃ d, N % 10 = d := ⟨_, rfl⟩
    have hd2 : d < 10 := by omega
    have t1 : (N : Int).tmod 10 = (d : Int) := by rw [← hd]; rfl
    have t2 : (N : Int) % 10 = (d : Int) := by omega
    obtain ⟨m, hm⟩ : ∃ m, 48 + d = m := ⟨_, rfl⟩
    have hm2 : m < 256 := by omega
    have t3 : 48 + (d : Int) = (m : Int) := by omega
    have t4 : IntKind.u8.wrap (m : Int) = (m : Int) := by simp only [IntKind.wrap_u8]; omega
    have hc := fun (w : World) b (h0 : w.cell? ⟨b, 0, none⟩ = some (.int .u8 (m : Int))) => conv_1 h0 hm2
    rcases Nat.lt_or_ge N 10 with h | h
    · have h' : (N : Int) < 10 := by omega
      have e : decDigits N = [UInt8.ofNat m] := by rw [decDigits, dif_pos h, ← hm, ← hd, Nat.mod_eq_of_lt h]
      rw [e]
      clear ih hN e hm hd hd2 hm2
      go_enter Tryd.func62, Tryd.ntmps62
      go_wp2
      go_ret
      exact ⟨rfl, by (repeat' (first | (with_reducible exact Below.refl _ _) | (with_reducible assumption) | (with_reducible refine Below.new ?_ _) | (with_reducible refine Below.alloc ?_ ?_ _) | (with_reducible refine Below.drew ?_) | (with_reducible refine Below.drewN ?_ _) | (with_reducible refine Below.setCell ?_ ?_ _) | (refine Below.step ?_ (by assumption)) | go_size))⟩
    · have h' : 10 ≤ (N : Int) := by omega
      have e : decDigits N = decDigits (N / 10) ++ [UInt8.ofNat m] := by rw [decDigits, dif_neg (by omega), ← hm, ← hd]
      rw [e]
      obtain ⟨q, hq⟩ : ∃ q, N / 10 = q := ⟨_, rfl⟩
      have t5 : (N : Int).tdiv 10 = (q : Int) := by rw [← hq]; rfl
      have t6 : (N : Int) / 10 = (q : Int) := by omega
      have IH := hid (fun W => ih q (by omega) (by omega) W)
      have hl := dec_20 (n := q) (by omega)
      rw [hq, ← strL_app]
      obtain ⟨R, hR⟩ : ∃ R, decDigits q = R := ⟨_, rfl⟩
      rw [hR] at IH hl ⊢
      clear ih hN e hm hd hd2 hm2 hq hR
      go_enter Tryd.func62, Tryd.ntmps62
      go_wp2_with (go_at_call 62; go_loud ((with_reducible refine (IH.out _).mono ?_); rintro e w1 ⟨rfl, hw1⟩))
      go_ret
      exact ⟨rfl, by (repeat' (first | (with_reducible exact Below.refl _ _) | (with_reducible assumption) | (with_reducible refine Below.new ?_ _) | (with_reducible refine Below.alloc ?_ ?_ _) | (with_reducible refine Below.drew ?_) | (with_reducible refine Below.drewN ?_ _) | (with_reducible refine Below.setCell ?_ ?_ _) | (refine Below.step ?_ (by assumption)) | go_size))⟩
theorem rnum_any (n : Int) (h : -9223372036854775808 < n ∧ n ≤ 9223372036854775807) (w : World) : Calls Tryd.prog 62 #[.int .i64 n] w fun e w' => e = .returned (strL (itoa n)) ∧ Below w.heap.size w w' := by
  rcases Int.lt_or_le n 0 with h0 | h0
  · have e : itoa n = [45] ++ decDigits n.natAbs := by unfold itoa; rw [if_pos h0]; rfl
    have IH := hid (fun W => rnum_pos n.natAbs (by omega) W)
    have t1 : (n.natAbs : Int) = -n := by omega
    rw [t1] at IH
    have t2 : IntKind.i64.wrap (-n) = -n := by simp only [IntKind.wrap_i64]; omega
    have hl := dec_20 (n := n.natAbs) (by omega)
    rw [e, ← strL_app]
    obtain ⟨R, hR⟩ : ∃ R, decDigits n.natAbs = R := ⟨_, rfl⟩
    rw [hR] at IH hl ⊢
    clear hR
    clear e t1
    go_enter Tryd.func62, Tryd.ntmps62
    go_wp2_with (go_at_call 62; go_loud ((with_reducible refine (IH.out _).mono ?_); rintro e w1 ⟨rfl, hw1⟩))
    go_ret
    exact ⟨rfl, by (repeat' (first | (with_reducible exact Below.refl _ _) | (with_reducible assumption) | (with_reducible refine Below.new ?_ _) | (with_reducible refine Below.alloc ?_ ?_ _) | (with_reducible refine Below.drew ?_) | (with_reducible refine Below.drewN ?_ _) | (with_reducible refine Below.setCell ?_ ?_ _) | (refine Below.step ?_ (by assumption)) | go_size))⟩
  · have e : itoa n = decDigits n.toNat := by unfold itoa; rw [if_neg (by omega)]
    obtain ⟨N, rfl⟩ := Int.eq_ofNat_of_zero_le h0
    rw [e]
    exact rnum_pos N (by omega) w
end Go.Proofs.YtcdfbcmhikhnjaaDoor
