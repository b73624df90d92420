/- Ratio: how a text is read, plainly; the program's conversions of its numbers. -/
import Derived.Test.YtcdfbcmhikhnjaaDoorRuB
namespace Go.Proofs.YtcdfbcmhikhnjaaDoor
set_option linter.unusedVariables false
set_option linter.unusedSimpArgs false
set_option maxRecDepth 100000
open Go.ChangeShapes Go.WideShapes Go.ChangeAt Go.RowKit Go.Fl
open Go.Lib (decDigits itoa)
open Go.ChangeMaps Go.MapKept

/-- What 'Parse' must give. -/
def ParseIs (l : List UInt8) (f : Nat) (e : Int) : Prop :=
  (e = 0 ∧ f < 2 ^ 64 ∧ textB f = l ∧ (isNan f = true → f = 9221120237041090561)) ∨ (e = 90 ∧ f = 0 ∧ ∀ b, b < 2 ^ 64 → textB b ≠ l)
theorem ParseIs.uniq {l : List UInt8} {f g : Nat} {e k : Int} (h : ParseIs l f e) (h' : ParseIs l g k) : f = g ∧ e = k := by
  rcases h with ⟨e1, f1, t1, n1⟩ | ⟨e1, f1, t1⟩ <;> rcases h' with ⟨e2, f2, t2, n2⟩ | ⟨e2, f2, t2⟩
  · refine ⟨?_, by omega⟩
    rcases textB_inj f1 f2 (t1.trans t2.symm) with h | ⟨h1, h2⟩
    · exact h
    · rw [n1 h1, n2 h2]
  · exact absurd t1 (t2 _ f1)
  · exact absurd t2 (t1 _ f2)
  · exact ⟨by omega, by omega⟩
theorem word_text {p : List UInt8 × Nat} (hp : p ∈ wordsL) : ParseIs p.1 p.2 0 := by
  refine .inl ⟨rfl, words_lt hp, key_text hp rfl, fun h => ?_⟩
  unfold wordsL at hp
  simp only [List.mem_cons, List.not_mem_nil, or_false] at hp
  rcases hp with rfl | rfl | rfl | rfl | rfl
  · exact absurd h (by decide +kernel)
  · exact absurd h (by decide +kernel)
  · exact absurd h (by decide +kernel)
  · exact absurd h (by decide +kernel)
  · rfl
/-- A number's text that is no word: its parts. -/
theorem text_parts {b : Nat} {l : List UInt8} (h : textB b = l) (hw : ∀ p ∈ wordsL, p.1 ≠ l) :
    ∃ K M, Rep (b % 2 ^ 63) K M ∧ l = (if sgn b then [45] else []) ++ (decDigits (oddM M) ++ 112 :: itoa ((K : Int) - 1074 + tz M)) := by
  obtain ⟨n1, n2, n3⟩ := key_other (b := b) (fun p hp hk => hw p hp (by rw [← h]; exact (key_text hp hk).symm))
  exact ⟨_, _, Rep.of n2 n3, by rw [← h]; exact text_fin n1 n2 n3⟩
theorem hd_cons (c d : UInt8) (l : List UInt8) : hdB c (d :: l) = (c == d) := by
  show ([c].isPrefixOf (d :: l)) = _
  simp [List.isPrefixOf]
theorem tl_cons (c d : UInt8) (l : List UInt8) : tlB c (d :: l) = if c == d then l else d :: l := by
  show (if Lib.hasPrefix (d :: l) [c] then List.drop 1 (d :: l) else d :: l) = _
  have := hd_cons c d l
  unfold hdB at this
  rw [this]
  cases c == d <;> rfl
theorem dig_not {c : UInt8} (h : isDig c = true) : c ≠ 45 ∧ c ≠ 112 := by
  unfold isDig at h
  simp at h
  constructor <;> (intro e; subst e; revert h; decide)
theorem dec_isDig (n : Nat) : ∀ c ∈ decDigits n, isDig c = true := fun c hc => by
  have := dec_digit n c hc
  unfold isDig
  simp
  exact this
theorem digL_app {D t : List UInt8} {x : UInt8} {n : Nat} (hD : ∀ c ∈ D, isDig c = true) (hx : isDig x = false) (hn : D.length < n) : digL ((D ++ x :: t).take n) = D := by
  induction D generalizing n with
  | nil =>
    obtain ⟨n, rfl⟩ : ∃ m, n = m + 1 := ⟨n - 1, by simp at hn; omega⟩
    simp [digL, hx]
  | cons a D ih =>
    obtain ⟨n, rfl⟩ : ∃ m, n = m + 1 := ⟨n - 1, by simp at hn; omega⟩
    have ha := hD a (by simp)
    have := ih (n := n) (fun c hc => hD c (by simp [hc])) (by simp at hn; omega)
    unfold digL at this ⊢
    simp [ha, this]
theorem digL_full {D : List UInt8} {n : Nat} (hD : ∀ c ∈ D, isDig c = true) (hn : D.length ≤ n) : digL (D.take n) = D := by
  rw [List.take_of_length_le hn]
  unfold digL
  clear hn
  induction D with
  | nil => rfl
  | cons a D ih => rw [List.takeWhile_cons, hD a (by simp), if_pos rfl, ih (fun c hc => hD c (by simp [hc]))]
theorem dec_cons (n : Nat) : ∃ c t, decDigits n = c :: t ∧ isDig c = true := by
  cases h : decDigits n with
  | nil => exact absurd h (dec_ne n)
  | cons c t => exact ⟨c, t, rfl, dec_isDig n c (by rw [h]; simp)⟩
/-- The text of a number is read as its parts. -/
theorem read_parts {s : Bool} {O : Nat} {E : Int} (hO : O < 2 ^ 53) (hE : -2000 ≤ E ∧ E ≤ 2000) {l l1 l2 l3 l4 l5 : List UInt8}
    (h : l = (if s then [45] else []) ++ (decDigits O ++ 112 :: itoa E)) (e1 : l1 = tlB 45 l) (e2 : l2 = l1.drop (numL l1).length) (e3 : l3 = tlB 112 l2) (e4 : l4 = tlB 45 l3) (e5 : l5 = l4.drop (numL l4).length) :
    hdB 45 l = s ∧ 0 < (numL l1).length ∧ decV (numL l1) = O ∧ hdB 112 l2 = true ∧ hdB 45 l3 = decide (E < 0) ∧ 0 < (numL l4).length ∧ decV (numL l4) = E.natAbs ∧ l5 = [] := by
  obtain ⟨c, t, hc, hd⟩ := dec_cons O
  have hl1 : hdB 45 l = s ∧ l1 = decDigits O ++ 112 :: itoa E := by
    cases s
    · simp only [Bool.false_eq_true, if_false, List.nil_append] at h
      have hne : ((45 : UInt8) == c) = false := by simp; exact fun e => (dig_not hd).1 e.symm
      rw [e1, h, hc, List.cons_append, hd_cons, tl_cons, hne]
      exact ⟨rfl, rfl⟩
    · simp only [if_true] at h
      rw [e1, h, List.singleton_append, hd_cons, tl_cons]
      exact ⟨rfl, rfl⟩
  have hn1 : numL l1 = decDigits O := by
    rw [hl1.2]
    exact digL_app (dec_isDig O) (by decide) (by have := dec_len 15 O (by omega); omega)
  have hl2 : l2 = 112 :: itoa E := by
    rw [e2, hn1, hl1.2, List.drop_left]
  have hl3 : l3 = itoa E := by
    rw [e3, hl2, tl_cons]
    rfl
  obtain ⟨c', t', hc', hd'⟩ := dec_cons E.natAbs
  have hl4 : hdB 45 l3 = decide (E < 0) ∧ l4 = decDigits E.natAbs := by
    rw [e4, hl3]
    unfold itoa
    by_cases hneg : E < 0
    · rw [if_pos hneg, hd_cons, tl_cons]
      exact ⟨by simp [hneg], rfl⟩
    · rw [if_neg hneg, show E.toNat = E.natAbs by omega, hc', hd_cons, tl_cons]
      have hne : ((45 : UInt8) == c') = false := by simp; exact fun e => (dig_not hd').1 e.symm
      rw [hne]
      exact ⟨by simp [hneg], rfl⟩
  have hn4 : numL l4 = decDigits E.natAbs := by
    rw [hl4.2]
    exact digL_full (dec_isDig _) (by have := dec_len 3 E.natAbs (by omega); omega)
  refine ⟨hl1.1, ?_, ?_, ?_, hl4.1, ?_, ?_, ?_⟩
  · rw [hn1, hc]; simp
  · rw [hn1, decV_dec]
  · rw [hl2, hd_cons]; rfl
  · rw [hn4, hc']; simp
  · rw [hn4, decV_dec]
  · rw [e5, hn4, hl4.2, List.drop_length]
theorem words_key {p : List UInt8 × Nat} (hp : p ∈ wordsL) (zd : DataW Unit) : wordsD.atKey (sB p.1) zd = .lit (.int .u64 p.2) := by
  rw [wordsD_is]
  unfold wordsL at hp
  simp only [List.mem_cons, List.not_mem_nil, or_false] at hp
  rcases hp with rfl | rfl | rfl | rfl | rfl <;> rfl
theorem words_lookup {B : Nat} {W : World} (h : W.ownsMap Tryd.prog 9 floatElem B 5 wordsD) (x : ByteArray) (hx : x.size ≤ 100) :
    ∃ f ok, (Instr.lookup 77 (.map (some B)) (.string x) true).run Tryd.prog W = .ok (.tuple #[.float .f64 f, .bool ok]) W ∧
      ((ok = true ∧ ∃ p ∈ wordsL, p.1 = x.data.toList ∧ f = p.2) ∨ (ok = false ∧ ∀ p ∈ wordsL, p.1 ≠ x.data.toList)) := by
  have hz : (zeroValue 24).run Tryd.prog W = .ok (.float .f64 0) W := by go_simp
  have hkey : keyOf Tryd.prog 9 (.string x) = some (sB x.data.toList) := by
    unfold keyOf mapKey
    simp only [Tryd.underlying9]
    rw [if_pos (by unfold maxLen; omega)]
    rfl
  obtain ⟨es, clock, hb, F, _, hD⟩ := h
  rcases Maps.fit_look true (Maps.string_keyed Tryd.underlying9) Tryd.underlying77 hz hb F hkey with ⟨hrun, _, hat⟩ | ⟨e0, y, _, _, hrun, hRv, hat, _⟩
  · refine ⟨0, false, hrun, .inr ⟨rfl, fun p hp e => ?_⟩⟩
    have h1 := hat (.lit (.bool true))
    rw [← hD, ← e, words_key hp] at h1
    cases h1
  · obtain ⟨c, hc⟩ := inv_flt _ _ hRv
    rw [hc] at hRv hrun
    have hy := flt_of c y hRv
    rw [← hD] at hat
    obtain ⟨p, hp, hk, hcp⟩ := word_at (c := c) (fun zd => (hat zd).trans hy)
    exact ⟨c, true, hrun, .inl ⟨rfl, p, hp, (Lit.string.inj hk).symm, hcp⟩⟩
end Go.Proofs.YtcdfbcmhikhnjaaDoor
