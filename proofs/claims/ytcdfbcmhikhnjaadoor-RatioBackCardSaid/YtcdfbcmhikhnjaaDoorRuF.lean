/- Ratio: 'Parse' told by one value; the law's 'cut'. -/
import Derived.Test.YtcdfbcmhikhnjaaDoorRuE
namespace Go.Proofs.YtcdfbcmhikhnjaaDoor
set_option linter.unusedVariables false
set_option linter.unusedSimpArgs false
set_option maxRecDepth 100000
open Go.ChangeShapes Go.WideShapes Go.ChangeAt Go.RowKit Go.Fl
open Go.Lib (decDigits itoa)

/-- The number that a number's text is read as. -/
def canonB (b : Nat) : Nat := if isNan b then 9221120237041090561 else b
theorem canon_lt {b : Nat} (h : b < 2 ^ 64) : canonB b < 2 ^ 64 := by unfold canonB; split; exact (by decide); exact h
theorem canon_nan (b : Nat) : isNan (canonB b) = isNan b := by
  unfold canonB
  cases h : isNan b
  · rw [if_neg (by simp), h]
  · rw [if_pos rfl]; decide +kernel
theorem canon_text (b : Nat) : textB (canonB b) = textB b := by
  unfold canonB
  cases h : isNan b
  · rw [if_neg (by simp)]
  · rw [if_pos rfl]
    have e : textB 9221120237041090561 = [110, 97, 110] := by decide +kernel
    rw [e]; unfold textB; rw [h]; rfl
theorem canon_key (b : Nat) : keyI (canonB b) = keyI b := by
  unfold canonB
  cases h : isNan b
  · rw [if_neg (by simp)]
  · rw [if_pos rfl]
    have e : keyI 9221120237041090561 = -9223372036854775808 := by decide +kernel
    rw [e]; unfold keyI; rw [h]; rfl
theorem canon_is {b : Nat} {l : List UInt8} (hb : b < 2 ^ 64) (h : textB b = l) : ParseIs l (canonB b) 0 := by
  refine .inl ⟨rfl, canon_lt hb, (canon_text b).trans h, fun hn => ?_⟩
  rw [canon_nan] at hn
  unfold canonB
  rw [if_pos hn]
theorem parse_ex (l : List UInt8) : ∃ f c, ParseIs l f c := by
  by_cases h : ∃ b, b < 2 ^ 64 ∧ textB b = l
  · obtain ⟨b, hb, hl⟩ := h
    exact ⟨_, _, canon_is hb hl⟩
  · exact ⟨0, 90, .inr ⟨rfl, rfl, fun b hb hl => h ⟨b, hb, hl⟩⟩⟩
theorem parse_det {l : List UInt8} {f : Nat} {c : Int} (h : ParseIs l f c) (hl : l.length ≤ 100) (w : World) (hT : Tabs w) :
    Calls Tryd.prog 24 #[strL l] w fun e w' => e = .returned (.tuple #[.float .f64 f, .int .i64 c]) ∧ Below w.heap.size w w' := by
  refine (parse_any l hl w hT).mono ?_
  rintro e w' ⟨⟨g, k, rfl, h'⟩, hb⟩
  obtain ⟨rfl, rfl⟩ := h.uniq h'
  exact ⟨rfl, hb⟩
theorem body_len {r : Nat} (hr : r < 2 ^ 63) : (bodyT r).length ≤ 60 := by
  unfold bodyT
  split
  · decide
  · split
    · decide
    · rename_i h1 h2
      unfold finT
      have hp := rung_parts r
      have hm := fM_lt r
      have ho := fK_or r
      have hM : 0 < fM r := by
        rcases ho with h | h
        · rw [h] at hp; omega
        · omega
      have hz := tz_pow hM hm
      have l1 := dec_20 (n := oddM (fM r)) (by have := oddM_le (fM r); omega)
      have l2 := itoa_21 (n := (fK r : Int) - 1074 + tz (fM r)) (by omega)
      rw [List.length_append, List.length_cons]
      omega
theorem text_len (b : Nat) : (textB b).length ≤ 100 := by
  have := body_len (r := b % 2 ^ 63) (by omega)
  unfold textB
  split
  · decide
  · split
    · rw [List.length_cons]; omega
    · omega
theorem cut_take (s : ByteArray) (hs : s.size ≤ 9223372036854775807) (w : World) :
    Calls Tryd.prog 25 #[.string s] w fun e w' => e = .returned (strL (s.data.toList.take 60)) ∧ w' = w := by
  have im := ite_min
  have i1 : (0 : Int) ≤ min (s.size : Int) 60 := by omega
  have i2 : min (s.size : Int) 60 ≤ (s.size : Int) := by omega
  have i3 : Value.string (s.extract 0 (min (s.size : Int) 60).toNat) = strL (s.data.toList.take 60) := by
    obtain ⟨l, rfl⟩ : ∃ l : List UInt8, s = { data := l.toArray } := ⟨s.data.toList, by cases s; rfl⟩
    have h1 : ({ data := l.toArray } : ByteArray).size = l.length := rfl
    rw [extract_take, h1, show (min (l.length : Int) 60).toNat = min l.length 60 by omega]
    show strL (l.take (min l.length 60)) = strL (l.take 60)
    have : l.take (min l.length 60) = l.take 60 := by rw [List.take_eq_take_iff]; omega
    rw [this]
  rw [← i3]
  clear i3
  go_enter Tryd.func25, Tryd.ntmps25
  go_wp2
  go_ret
  exact ⟨rfl, rfl⟩
end Go.Proofs.YtcdfbcmhikhnjaaDoor
