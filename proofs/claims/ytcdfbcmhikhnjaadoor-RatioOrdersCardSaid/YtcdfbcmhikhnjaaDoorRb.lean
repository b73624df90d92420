/- Texts joined: FlS, RuA, RuB, RuC, RuD, RuE, RuF, RuG, RuH, RuI, RuJ. -/
import Derived.Test.YtcdfbcmhikhnjaaDoorFlD
import Derived.Test.YtcdfbcmhikhnjaaDoorRtX
import Derived.Test.YtcdfbcmhikhnjaaDoorSeqN
import Derived.Laws.RangeAny
/- Floating numbers, plainly: a whole number, doubled or halved step by step. -/
namespace Go.Fl
open Ieee

theorem mul_fin2 {y : Nat} (hy : isNan y = false) : ∃ z, double.mul y 0x4000000000000000 = some z ∧ isNan z = false ∧ z < 2 ^ 64 := by
  have h2 := rep_two.read false
  rw [word_false] at h2
  unfold Format.mul
  rw [h2]
  have hy' : y % 2 ^ 63 ≤ 2047 * 2 ^ 52 := by simpa [isNan] using hy
  by_cases hf : y % 2 ^ 63 < 2047 * 2 ^ 52
  · rw [read_fin hf]
    obtain ⟨z, e, hz⟩ := near_num (sgn y ^^ false) (fM (y % 2 ^ 63) * 2 ^ 52) ((fK (y % 2 ^ 63) : Int) - 1074 + (((1023 : Nat) : Int) - 1074))
    exact ⟨_, by unfold Datum.product; rfl, by show isNan (double.nearest _ _ _) = false ∧ double.nearest _ _ _ < 2 ^ 64; rw [e]; exact word_nan _ hz⟩
  · rw [read_inf (by omega)]
    unfold Datum.product
    have : ¬ (2 : Nat) ^ 52 = 0 := by decide
    simp only [this, if_false, Option.map_some]
    exact ⟨_, rfl, by show isNan (double.word _ _) = false ∧ double.word _ _ < 2 ^ 64; exact word_nan _ (by rw [inr]; omega)⟩
theorem div_fin2 {y : Nat} (hy : isNan y = false) : ∃ z, double.div y 0x4000000000000000 = some z ∧ isNan z = false ∧ z < 2 ^ 64 := by
  have h2 := rep_two.read false
  rw [word_false] at h2
  unfold Format.div
  rw [h2]
  have hy' : y % 2 ^ 63 ≤ 2047 * 2 ^ 52 := by simpa [isNan] using hy
  have hn : ¬ ((2 : Nat) ^ 52 = 0) := by decide
  by_cases hf : y % 2 ^ 63 < 2047 * 2 ^ 52
  · rw [read_fin hf]
    unfold Datum.quotient
    simp only [hn, if_false, Option.map_some]
    refine ⟨_, rfl, ?_⟩
    show isNan (double.nearest _ _ _) = false ∧ double.nearest _ _ _ < 2 ^ 64
    obtain ⟨z, e, hz⟩ := near_num (sgn y ^^ false) (2 * (fM (y % 2 ^ 63) <<< (double.fractionBits + 2 + (2 ^ 52 : Nat).log2 - (fM (y % 2 ^ 63)).log2) / 2 ^ 52) + (fM (y % 2 ^ 63) <<< (double.fractionBits + 2 + (2 ^ 52 : Nat).log2 - (fM (y % 2 ^ 63)).log2) % 2 ^ 52 != 0).toNat) ((fK (y % 2 ^ 63) : Int) - 1074 - (((1023 : Nat) : Int) - 1074) - (double.fractionBits + 2 + (2 ^ 52 : Nat).log2 - (fM (y % 2 ^ 63)).log2 : Nat) - 1)
    rw [e]
    exact word_nan _ hz
  · rw [read_inf (by omega)]
    unfold Datum.quotient
    simp only [Option.map_some]
    exact ⟨_, rfl, by show isNan (double.word _ _) = false ∧ double.word _ _ < 2 ^ 64; exact word_nan _ (by rw [inr]; omega)⟩

/-- The word of m times 2 to the power of p (told above -1074), if there is one. -/
def At (m : Nat) (p : Int) (g : Nat) : Prop := ∃ K M, Rep g K M ∧ Same2 m p K M
theorem At.uniq {m : Nat} {p : Int} {g h : Nat} (a : At m p g) (b : At m p h) : g = h := by
  obtain ⟨K, M, r, s⟩ := a
  obtain ⟨L, N, r', s'⟩ := b
  exact Same2.uniq r r' s s'
/-- Normalized: m < 2^53 moved up by s. -/
theorem norm_of {m : Nat} (h0 : 0 < m) (h : m < 2 ^ 53) : ∃ s, s ≤ 52 ∧ 2 ^ 52 ≤ m * 2 ^ s ∧ m * 2 ^ s < 2 ^ 53 := by
  have l1 : 2 ^ m.log2 ≤ m := Nat.log2_self_le (by omega)
  have l2 : m < 2 ^ (m.log2 + 1) := Nat.lt_log2_self
  have l3 : m.log2 < 53 := (Nat.log2_lt (by omega)).2 h
  refine ⟨52 - m.log2, by omega, ?_, ?_⟩
  · calc 2 ^ 52 = 2 ^ m.log2 * 2 ^ (52 - m.log2) := by rw [← Nat.pow_add]; congr 1; omega
      _ ≤ m * 2 ^ (52 - m.log2) := Nat.mul_le_mul_right _ l1
  · calc m * 2 ^ (52 - m.log2) < 2 ^ (m.log2 + 1) * 2 ^ (52 - m.log2) := Nat.mul_lt_mul_of_pos_right l2 (Nat.two_pow_pos _)
      _ = 2 ^ 53 := by rw [← Nat.pow_add]; congr 1; omega
/-- A whole number of at most 53 digits at a place from the least one on, not too high, has a word. -/
theorem at_of {m s : Nat} {p : Int} (h0 : 0 < m) (h : m < 2 ^ 53) (hs : s ≤ 52) (s1 : 2 ^ 52 ≤ m * 2 ^ s) (s2 : m * 2 ^ s < 2 ^ 53) (hp : 0 ≤ p) (hp2 : p - s ≤ 2045) : ∃ g, At m p g := by
  by_cases hk : (s : Int) ≤ p
  · obtain ⟨K, hK⟩ := Int.eq_ofNat_of_zero_le (show 0 ≤ p - s by omega)
    refine ⟨K * 2 ^ 52 + m * 2 ^ s, K, m * 2 ^ s, ⟨rfl, s2, .inr s1, by omega, by omega⟩, .inr ⟨s, by omega, rfl⟩⟩
  · obtain ⟨q, rfl⟩ := Int.eq_ofNat_of_zero_le hp
    have hq : q < s := by omega
    have h1 : m * 2 ^ q < 2 ^ 52 := by
      have : m * 2 ^ s = m * 2 ^ q * 2 ^ (s - q) := by rw [Nat.mul_assoc, ← Nat.pow_add]; congr 2; omega
      have h2 : 2 ^ 1 ≤ 2 ^ (s - q) := Nat.pow_le_pow_right (by decide) (by omega)
      have h3 : m * 2 ^ q * 2 ^ 1 ≤ m * 2 ^ q * 2 ^ (s - q) := Nat.mul_le_mul_left _ h2
      omega
    have h4 : 0 < m * 2 ^ q := Nat.mul_pos h0 (Nat.two_pow_pos _)
    exact ⟨0 * 2 ^ 52 + m * 2 ^ q, 0, m * 2 ^ q, ⟨rfl, by omega, .inl rfl, h4, by omega⟩, .inr ⟨q, by omega, rfl⟩⟩
/-- How high a number that has a word may stand. -/
theorem at_high {m s : Nat} {p : Int} {g : Nat} (s1 : 2 ^ 52 ≤ m * 2 ^ s) (hs : s ≤ 52) (a : At m p g) : p - s ≤ 2045 := by
  obtain ⟨K, M, r, h⟩ := a
  have rm := r.m; have rf := r.fin; have rk := r.k; have rp := r.pos
  have hK : K ≤ 2045 := by rcases rk with h | h <;> omega
  rcases h with ⟨d, e1, e2⟩ | ⟨d, e1, e2⟩
  · omega
  · -- M = m * 2^d < 2^53, so d is at most s
    refine Int.le_of_not_gt fun hgt => ?_
    have hd : s + 1 ≤ d := by omega
    have h1 : 2 ^ (s + 1) ≤ 2 ^ d := Nat.pow_le_pow_right (by decide) hd
    have h2 : m * 2 ^ (s + 1) ≤ m * 2 ^ d := Nat.mul_le_mul_left _ h1
    rw [Nat.pow_succ, ← Nat.mul_assoc] at h2
    omega
/-- Where the doubling, or halving, stands: the word so far; exact as long as the end is. -/
structure ScReach (m : Nat) (e k : Int) (g : Nat) : Prop where
  lt : g < 2 ^ 64
  num : isNan g = false
  ex : m < 2 ^ 53 → -1074 ≤ e → (∃ t, At m (1074 + e) t) → At m (1074 + k) g
theorem at_pos {m : Nat} {p : Int} {g : Nat} (a : At m p g) : 0 < m := by
  obtain ⟨K, M, r, h⟩ := a
  have := r.pos
  rcases h with ⟨d, e1, e2⟩ | ⟨d, e1, e2⟩
  · rw [e2]; exact Nat.mul_pos this (Nat.two_pow_pos d)
  · rcases Nat.eq_zero_or_pos m with h | h
    · subst h; rw [Nat.zero_mul] at e2; omega
    · exact h
theorem same_step {m K M L N : Nat} {p q : Int} (h : Same2 m p K M) (k : Same2 m q L N) (c : Int) (hc : q = p + c) : Same2 M ((K : Int) + c) L N := by
  rcases h with ⟨d, e1, e2⟩ | ⟨d, e1, e2⟩ <;> rcases k with ⟨f, g1, g2⟩ | ⟨f, g1, g2⟩
  · -- m = M 2^d = N 2^f
    by_cases hd : f ≤ d
    · refine .inr ⟨d - f, by omega, ?_⟩
      have : N * 2 ^ f = M * 2 ^ (d - f) * 2 ^ f := by rw [Nat.mul_assoc, ← Nat.pow_add, show d - f + f = d by omega, ← e2, ← g2]
      exact Nat.eq_of_mul_eq_mul_right (Nat.two_pow_pos f) this
    · refine .inl ⟨f - d, by omega, ?_⟩
      have : M * 2 ^ d = N * 2 ^ (f - d) * 2 ^ d := by rw [Nat.mul_assoc, ← Nat.pow_add, show f - d + d = f by omega, ← e2, ← g2]
      exact Nat.eq_of_mul_eq_mul_right (Nat.two_pow_pos d) this
  · -- m = M 2^d, N = m 2^f
    exact .inr ⟨d + f, by omega, by rw [g2, e2, Nat.mul_assoc, ← Nat.pow_add]⟩
  · -- M = m 2^d, m = N 2^f
    exact .inl ⟨f + d, by omega, by rw [e2, g2, Nat.mul_assoc, ← Nat.pow_add]⟩
  · by_cases hd : d ≤ f
    · refine .inr ⟨f - d, by omega, ?_⟩
      rw [g2, e2, Nat.mul_assoc, ← Nat.pow_add, show d + (f - d) = f by omega]
    · refine .inl ⟨d - f, by omega, ?_⟩
      rw [e2, g2, Nat.mul_assoc, ← Nat.pow_add, show f + (d - f) = d by omega]
theorem ScReach.up {m : Nat} {e k : Int} {g : Nat} (h : ScReach m e k g) (hk0 : 0 ≤ k) (hk : k < e) : ∃ z, double.mul g 0x4000000000000000 = some z ∧ ScReach m e (k + 1) z := by
  obtain ⟨z, hz, z1, z2⟩ := mul_fin2 h.num
  refine ⟨z, hz, z2, z1, fun hm he ⟨t, ht⟩ => ?_⟩
  have a := h.ex hm he ⟨t, ht⟩
  have h0 := at_pos a
  obtain ⟨s, s0, s1, s2⟩ := norm_of h0 hm
  have hh := at_high s1 s0 ht
  obtain ⟨y, b⟩ := at_of (p := 1074 + (k + 1)) h0 hm s0 s1 s2 (by omega) (by omega)
  obtain ⟨K, M, r, hr⟩ := a
  have b' := b
  obtain ⟨L, N, r', hr'⟩ := b
  have := mul_two (neg := false) r r' (same_step hr hr' 1 (by omega))
  rw [word_false, word_false, hz] at this
  rw [Option.some.inj this]
  exact b'
theorem ScReach.down {m : Nat} {e k : Int} {g : Nat} (h : ScReach m e k g) (hk0 : k ≤ 0) (hk : e < k) : ∃ z, double.div g 0x4000000000000000 = some z ∧ ScReach m e (k - 1) z := by
  obtain ⟨z, hz, z1, z2⟩ := div_fin2 h.num
  refine ⟨z, hz, z2, z1, fun hm he ⟨t, ht⟩ => ?_⟩
  have a := h.ex hm he ⟨t, ht⟩
  have h0 := at_pos a
  obtain ⟨s, s0, s1, s2⟩ := norm_of h0 hm
  obtain ⟨y, b⟩ := at_of (p := 1074 + (k - 1)) h0 hm s0 s1 s2 (by omega) (by omega)
  obtain ⟨K, M, r, hr⟩ := a
  have b' := b
  obtain ⟨L, N, r', hr'⟩ := b
  have hs := same_step hr hr' (-1) (by omega)
  have := div_two (neg := false) r r' (by rw [show (K : Int) - 1 = (K : Int) + -1 by omega]; exact hs)
  rw [word_false, word_false, hz] at this
  rw [Option.some.inj this]
  exact b'
theorem ScReach.done {m : Nat} {e : Int} {g t J I : Nat} (h : ScReach m e e g) (hm : m < 2 ^ 53) (he : -1074 ≤ e) (r : Rep t J I) (s : Same2 m (1074 + e) J I) : g = t :=
  (h.ex hm he ⟨t, J, I, r, s⟩).uniq ⟨J, I, r, s⟩
end Go.Fl
/- Ratio: the program's reader: a sign taken; the digits of a text. -/
namespace Go.Proofs.YtcdfbcmhikhnjaaDoor
set_option linter.unusedVariables false
set_option linter.unusedSimpArgs false
set_option maxRecDepth 100000
open Go.ChangeShapes Go.WideShapes Go.ChangeAt Go.RowKit Go.Fl Go.Shelf
attribute [local go_sem] Oper.semAt_some

def isDig (c : UInt8) : Bool := decide (48 ≤ c.toNat) && decide (c.toNat ≤ 57)
/-- The digits that a text begins with. -/
def digL (l : List UInt8) : List UInt8 := l.takeWhile isDig

theorem next_at {W : World} {s : ByteArray} {pos r : Nat} (h : W.heap[r]? = some (.stringIter s pos)) (hp : pos < s.size) (ty : TypeId) :
    (Instr.next (.pointer (some ⟨r, 0, none⟩)) true ty).run Tryd.prog W = .ok (.tuple #[.bool true, .int .i64 pos, .int .i32 (Utf8.decode s pos).1]) (W.putObj r (.stringIter s (pos + (Utf8.decode s pos).2))) := by
  simp [Instr.next, getObj, setObj, Sem.run_bind, Sem.run, h, Result.andThen, hp, World.putObj, goInt]
theorem next_end {W : World} {s : ByteArray} {pos r : Nat} (h : W.heap[r]? = some (.stringIter s pos)) (hp : ¬ pos < s.size) (ty : TypeId) :
    (Instr.next (.pointer (some ⟨r, 0, none⟩)) true ty).run Tryd.prog W = .ok (.tuple #[.bool false]) W := by
  simp [Instr.next, getObj, Sem.run, h, hp]
theorem digits_any (s : ByteArray) (w : World) :
    Calls Tryd.prog 76 #[.string s] w fun e w' => e = .returned (.func (.func 89) #[] #[.pointer (some ⟨w.heap.size, 0, none⟩)]) ∧ w' = w.alloc (.cells #[.string s] 9) := by
  go_enter Tryd.func76, Tryd.ntmps76
  go_wp2
  go_ret
  exact ⟨rfl, rfl⟩
theorem digL_at {l : List UInt8} {k : Nat} (h : k < (digL l).length) : ∃ c, l[k]? = some c ∧ isDig c = true := by
  induction l generalizing k with
  | nil => simp [digL] at h
  | cons a l ih =>
    unfold digL at h ih
    rw [List.takeWhile_cons] at h
    cases ha : isDig a
    · rw [ha] at h; simp at h
    · rw [ha] at h
      cases k with
      | zero => exact ⟨a, rfl, ha⟩
      | succ k => exact ih (k := k) (by simpa using h)
theorem digL_end {l : List UInt8} {c : UInt8} (h : l[(digL l).length]? = some c) : isDig c = false := by
  induction l with
  | nil => simp at h
  | cons a l ih =>
    unfold digL at h ih
    rw [List.takeWhile_cons] at h
    cases ha : isDig a
    · rw [ha] at h
      simp at h
      rw [← h]; exact ha
    · rw [ha] at h
      simp at h
      exact ih h
theorem digL_le (l : List UInt8) : (digL l).length ≤ l.length := by unfold digL; exact (List.takeWhile_sublist _).length_le

set_option maxHeartbeats 1000000 in
theorem digits_seq (l : List UInt8) (hl : l.length ≤ 1000) (b1 n₀ lo hi : Nat) (w : World) (hb1 : lo ≤ b1 ∧ b1 < hi) (hw : hi ≤ w.heap.size) (hn : n₀ ≤ w.heap.size)
    (c0 : w.cell? ⟨b1, 0, none⟩ = some (strL l)) :
    SeqN Tryd.prog 89 #[.pointer (some ⟨b1, 0, none⟩)] (fun k : Nat => #[Value.int .i32 ((l[k]?.getD 0).toNat : Int)]) n₀ lo hi (digL l).length w := by
  intro n y J Jx W hW hJ hJx hY h0
  have hsz := hW.size
  have d0 := (hW.cell (p := ⟨b1, 0, none⟩) (by simp; omega)).trans c0
  have hle := digL_le l
  obtain ⟨N, hN⟩ : ∃ N, (digL l).length = N := ⟨_, rfl⟩
  have HA : Hid (∀ k, k < N → ∃ c, l[k]? = some c ∧ isDig c = true) := fun k hk => digL_at (by rw [hN]; exact hk)
  have HE : Hid (∀ c, l[N]? = some c → isDig c = false) := fun c hc => digL_end (by rw [hN]; exact hc)
  rw [hN] at hY hle ⊢
  obtain ⟨s, hs⟩ : ∃ s : ByteArray, s = { data := l.toArray } := ⟨_, rfl⟩
  have hss : s.size = l.length := by rw [hs]; rfl
  have hd0 : W.cell? ⟨b1, 0, none⟩ = some (.string s) := by rw [hs]; exact d0
  have HS : Hid (∀ k c, l[k]? = some c → ∃ h : k < s.size, s[k]'h = c) := fun k c hc => by
    obtain ⟨h1, h2⟩ := List.getElem?_eq_some_iff.1 hc
    exact ⟨by rw [hss]; exact h1, by subst hs; exact h2⟩
  have HSS := hid hss
  clear hN c0 d0 hs hss
  refine (callsIn_wide (n := n + 1)).1 (callsIn_of_wp Tryd.func89 rfl trivial ?_ rfl)
  simp only [Tryd.ntmps89, List.size_toArray, List.length_cons, List.length_nil, Nat.reduceAdd, Nat.reduceSub, Array.replicate_succ, Array.replicate_zero, List.push_toArray, List.append_toArray, List.nil_append, List.cons_append]
  gi_wp2
  gi_loopw [4] (fun _ wr => ∃ k : Nat, k ≤ N ∧ wr.heap[W.heap.size]? = some (.stringIter s k) ∧ J k wr ∧ W.heap.size + 1 ≤ wr.heap.size) (fun _ wr => N - wr.iterPos W.heap.size)
  case atStart => exact ⟨0, Nat.zero_le _, World.iter_heap _ _ _, (hJ 0).alloc _ h0, by simp [World.iter]⟩
  case round =>
    obtain ⟨k, hk, hit, hJs, hz⟩ := hrel
    have hpos : wr.iterPos W.heap.size = k := by simp [World.iterPos, hit]
    by_cases hlt : k < N
    · obtain ⟨c, hc, hD⟩ := HA.out k hlt
      obtain ⟨hks, hkc⟩ := HS.out k c hc
      have hDc : 48 ≤ c.toNat ∧ c.toNat ≤ 57 := by unfold isDig at hD; simpa using hD
      have hnx := next_at hit hks
      have hdec := decode_ascii s k hks (by rw [hkc]; omega)
      rw [hkc] at hdec
      rw [hdec] at hnx
      have hlW : W.heap.size < wr.heap.size := by omega
      have hJ2 : J k (wr.putObj W.heap.size (.stringIter s (k + 1))) := (hJ k).putObj _ hJs (Nat.le_refl _) hit rfl
      have hit2 : (wr.putObj W.heap.size (.stringIter s (k + 1))).heap[W.heap.size]? = some (.stringIter s (k + 1)) := World.putObj_heap_same hlW
      have hz2 : (wr.putObj W.heap.size (.stringIter s (k + 1))).heap.size = wr.heap.size := by simp
      obtain ⟨X, hX⟩ : ∃ X, wr.putObj W.heap.size (.stringIter s (k + 1)) = X := ⟨_, rfl⟩
      dsimp only at hnx
      rw [hX] at hnx hJ2 hit2 hz2
      obtain ⟨fn, tmps, assign, body, hy, hR⟩ := hY k hlt X (by omega) hJ2
      (try dsimp only at hy)
      have hcv : l[k]?.getD 0 = c := by rw [hc]; rfl
      rw [hcv] at hy
      obtain ⟨v, hv⟩ : ∃ v : Int, (c.toNat : Int) = v := ⟨_, rfl⟩
      have hv1 : ¬ v < 48 := by omega
      have hv2 : ¬ 57 < v := by omega
      rw [hv] at hy hnx
      have HP := hid hpos
      have HL := hid hlt
      clear hY hJ hJx hc hD hks hkc hDc hdec hcv hv hX hit hJs hJ2 hpos hlt
      gi_wp2
      refine hR.mono ?_
      rintro e W3 (⟨rfl, hJ3, hP3⟩ | ⟨rfl, hJx3, hP3⟩)
      · have hit3 := (hP3.high W.heap.size (Nat.le_refl _) (by omega)).trans hit2
        have hz3 := hP3.size
        gi_wp2
        go_roundw
        case rel => exact ⟨k + 1, HL.out, hit3, hJ3, by omega⟩
        case measure =>
          have : W3.iterPos W.heap.size = k + 1 := by simp [World.iterPos, hit3]
          rw [this, HP.out]
          have := HL.out
          omega
      · gi_wp2
        refine bodyPost_ret (results_none rfl _ _ _) rfl ?_
        exact ⟨⟨_, rfl⟩, .inr ⟨k, HL.out, hJx3⟩⟩
    · obtain rfl : k = N := by omega
      clear hY hJx
      by_cases hend : k < l.length
      · obtain ⟨c, hc⟩ : ∃ c, l[k]? = some c := ⟨l[k], List.getElem?_eq_getElem hend⟩
        have hD := HE.out c hc
        obtain ⟨hks, hkc⟩ := HS.out k c hc
        have hnx := next_at hit hks
        have hDc : c.toNat < 48 ∨ 57 < c.toNat := by unfold isDig at hD; simp at hD; omega
        have hrune : ((Utf8.decode s k).1 : Int) < 48 ∨ 57 < ((Utf8.decode s k).1 : Int) := by
          by_cases ha : c.toNat < 128
          · rw [decode_ascii s k hks (by rw [hkc]; exact ha), hkc]
            dsimp only
            omega
          · have := (decode_high s k hks (by rw [hkc]; omega)).1
            omega
        have hJ2 : J k (wr.putObj W.heap.size (.stringIter s (k + (Utf8.decode s k).2))) := (hJ k).putObj _ hJs (Nat.le_refl _) hit rfl
        obtain ⟨X, hX⟩ : ∃ X, wr.putObj W.heap.size (.stringIter s (k + (Utf8.decode s k).2)) = X := ⟨_, rfl⟩
        rw [hX] at hnx hJ2
        obtain ⟨v, hv⟩ : ∃ v : Int, ((Utf8.decode s k).1 : Int) = v := ⟨_, rfl⟩
        rw [hv] at hnx hrune
        have HJ2 := hid hJ2
        clear hv hX hDc hkc hD hc hJ hJs hit hks hJ2
        rcases hrune with h1 | h1
        · gi_wp2
          refine ⟨(fun _ h => by cases h), ?_⟩
          gi_wp2
          refine bodyPost_ret (results_none rfl _ _ _) rfl ?_
          exact ⟨⟨_, rfl⟩, .inl HJ2.out⟩
        · have h2 : ¬ v < 48 := by omega
          gi_wp2
          refine ⟨(fun _ h => by cases h), ?_⟩
          gi_wp2
          refine bodyPost_ret (results_none rfl _ _ _) rfl ?_
          exact ⟨⟨_, rfl⟩, .inl HJ2.out⟩
      · have hnx := next_end hit (by rw [HSS.out]; exact hend)
        clear hJ
        gi_wp2
        go_end0
        exact ⟨⟨_, rfl⟩, .inl hJs⟩
end Go.Proofs.YtcdfbcmhikhnjaaDoor
/- Ratio: the program's reader: 'take', 'number'. -/
namespace Go.Proofs.YtcdfbcmhikhnjaaDoor
set_option linter.unusedVariables false
set_option linter.unusedSimpArgs false
set_option maxRecDepth 100000
open Go.ChangeShapes Go.WideShapes Go.ChangeAt Go.RowKit Go.Fl Go.Shelf
attribute [local go_sem] Oper.semAt_some

/-- A reader, with what is left of its text. -/
def RdAt (b : Nat) (l : List UInt8) (w : World) : Prop := w.heap[b]? = some (.cells #[strL l] 75 (0, 0))
abbrev hdB (c : UInt8) (l : List UInt8) : Bool := Lib.hasPrefix l [c]
abbrev tlB (c : UInt8) (l : List UInt8) : List UInt8 := Lib.trimPrefix l [c]
theorem take_any (b : Nat) (l : List UInt8) (c : UInt8) (w : World) (h : RdAt b l w) :
    Calls Tryd.prog 51 #[.pointer (some ⟨b, 0, none⟩), .string { data := #[c] }] w fun e w' => e = .returned (.bool (hdB c l)) ∧ w' = w.setCell ⟨b, 0, none⟩ (strL (tlB c l)) := by
  have hc := cell_of_one h
  have hf := free_of_one h
  have CP := hid (fun W => Tryd.strings_CutPrefix { data := l.toArray } { data := #[c] } W)
  obtain ⟨s, hs⟩ : ∃ s : ByteArray, ({ data := l.toArray } : ByteArray) = s := ⟨_, rfl⟩
  obtain ⟨t, ht⟩ : ∃ t : ByteArray, ({ data := (tlB c l).toArray } : ByteArray) = t := ⟨_, rfl⟩
  replace CP : Hid (∀ W, Calls Tryd.prog 75 #[.string s, .string { data := #[c] }] W fun e w' => e = .returned (.tuple #[.string t, .bool (hdB c l)]) ∧ w' = W) := by rw [← hs, ← ht]; exact CP
  replace hc : w.cell? ⟨b, 0, none⟩ = some (.string s) := by rw [← hs]; exact hc
  have hst : strL (tlB c l) = .string t := by rw [← ht]
  rw [hst]
  clear hs ht hst
  generalize hdB c l = d at *
  clear h
  go_enter Tryd.func51, Tryd.ntmps51
  go_wp2_with (go_at_call 75; go_loud ((with_reducible refine (CP.out _).mono ?_); rintro e w1 ⟨rfl, rfl⟩))
  go_ret
  exact ⟨rfl, rfl⟩
theorem decV_from : ∀ (ds : List UInt8) (a : Nat), (∀ c ∈ ds, isDig c = true) → ds.foldl (fun a c => 10 * a + (c.toNat - 48)) a < (a + 1) * 10 ^ ds.length
  | [], a, _ => by simp
  | c :: ds, a, h => by
    have h2 := h c (by simp)
    unfold isDig at h2
    simp at h2
    have h1 := decV_from ds (10 * a + (c.toNat - 48)) (fun c hc => h c (by simp [hc]))
    rw [List.foldl_cons, List.length_cons, Nat.pow_succ]
    have h3 : (10 * a + (c.toNat - 48) + 1) * 10 ^ ds.length ≤ (10 * (a + 1)) * 10 ^ ds.length := Nat.mul_le_mul_right _ (by omega)
    have h4 : (10 * (a + 1)) * 10 ^ ds.length = (a + 1) * (10 ^ ds.length * 10) := by rw [Nat.mul_comm 10, Nat.mul_assoc, Nat.mul_comm 10]
    omega
theorem decV_bound {ds : List UInt8} (h : ∀ c ∈ ds, isDig c = true) : decV ds < 10 ^ ds.length := by
  have := decV_from ds 0 h
  unfold decV
  omega
theorem digL_all (l : List UInt8) : ∀ c ∈ digL l, isDig c = true := fun c hc => by
  unfold digL at hc
  exact (List.all_eq_true.1 List.all_takeWhile) c hc
theorem decV_take {ds : List UInt8} {k : Nat} (h : k < ds.length) : decV (ds.take (k + 1)) = 10 * decV (ds.take k) + ((ds[k]).toNat - 48) := by
  rw [List.take_succ_eq_append_getElem h, decV_snoc]
theorem digL_get {l : List UInt8} {k : Nat} (h : k < (digL l).length) : (digL l)[k] = l[k]?.getD 0 := by
  have hp : digL l <+: l := List.takeWhile_prefix _
  have := List.IsPrefix.getElem hp h
  rw [this, List.getElem?_eq_getElem (Nat.lt_of_lt_of_le h (digL_le l))]
  rfl
/-- What the loop over digits has at its k-th round. -/
def numJ (ds : List UInt8) (w : World) (k : Nat) (X : World) : Prop :=
  X.heap[w.heap.size]? = some (.cells #[.int .i64 (decV (ds.take k) : Nat)] 3 (0, 0)) ∧ X.heap[w.heap.size + 1]? = some (.cells #[.int .i64 (k : Int)] 3 (0, 0)) ∧ Below w.heap.size w X
/-- The digits that 'number' takes. -/
abbrev numL (l : List UInt8) : List UInt8 := digL (l.take 18)
theorem extract_take (l : List UInt8) (n : Nat) : ({ data := l.toArray } : ByteArray).extract 0 n = { data := (l.take n).toArray } := by
  apply ByteArray.ext
  simp [ByteArray.extract, ByteArray.copySlice]
theorem extract_drop (l : List UInt8) (n : Nat) : ({ data := l.toArray } : ByteArray).extract n l.length = { data := (l.drop n).toArray } := by
  apply ByteArray.ext
  simp [ByteArray.extract, ByteArray.copySlice]
  rw [List.take_of_length_le (by simp)]
theorem protN_set {n₀ lo hi B : Nat} {X Y : World} (h : ProtN n₀ lo hi B X Y) {p : Addr} (h1 : n₀ ≤ p.block) (h2 : p.block < lo ∨ hi ≤ p.block) (h3 : p.block < B) (u : Value) : ProtN n₀ lo hi B X (Y.setCell p u) :=
  h.trans ⟨by simp [World.setCell], fun k hk => Below.heap_setCell Y p u k (by omega), fun k a c => Below.heap_setCell Y p u k (by omega), fun k a c => Below.heap_setCell Y p u k (by omega)⟩
set_option maxHeartbeats 4000000 in
theorem number_any (b : Nat) (l : List UInt8) (hl : l.length ≤ 100) (w : World) (h : RdAt b l w) :
    Calls Tryd.prog 52 #[.pointer (some ⟨b, 0, none⟩)] w fun e w' => e = .returned (.tuple #[.int .i64 (decV (numL l) : Nat), .bool (decide (0 < (numL l).length))]) ∧ RdAt b (l.drop (numL l).length) w' ∧ w.grownBy w' (some b) := by
  have hbw : b < w.heap.size := (Array.getElem?_eq_some_iff.1 h).1
  obtain ⟨D, hD⟩ : ∃ D, numL l = D := ⟨_, rfl⟩
  have HG : Hid (∀ k (h : k < D.length), D[k] = (l.take 18)[k]?.getD 0) := by subst hD; exact fun k h => digL_get h
  have HAll : Hid (∀ c ∈ D, isDig c = true) := by subst hD; exact digL_all _
  have hDl : D.length ≤ 18 := by subst hD; have h1 : (numL l).length ≤ (l.take 18).length := digL_le _; rw [List.length_take] at h1; omega
  have hDl2 : D.length ≤ l.length := by subst hD; have h1 : (numL l).length ≤ (l.take 18).length := digL_le _; rw [List.length_take] at h1; omega
  obtain ⟨N, hN⟩ : ∃ N, D.length = N := ⟨_, rfl⟩
  rw [hN] at hDl hDl2
  rw [hD, hN]
  obtain ⟨s, hs⟩ : ∃ s : ByteArray, ({ data := l.toArray } : ByteArray) = s := ⟨_, rfl⟩
  obtain ⟨t, ht⟩ : ∃ t : ByteArray, ({ data := (l.take 18).toArray } : ByteArray) = t := ⟨_, rfl⟩
  have hss : s.size = l.length := by rw [← hs]; rfl
  have hh : w.heap[b]? = some (.cells #[.string s] 75 (0, 0)) := by rw [← hs]; exact h
  have i3 : s.extract 0 (min (s.size : Int) 18).toNat = t := by
    rw [← ht, ← hs, extract_take, show (min ((({ data := l.toArray } : ByteArray)).size : Int) 18).toNat = min l.length 18 by show (min (l.length : Int) 18).toNat = _; omega]
    congr 2
    rw [List.take_eq_take_iff]
    omega
  have i1 : (0 : Int) ≤ min (s.size : Int) 18 := by omega
  have i2 : min (s.size : Int) 18 ≤ (s.size : Int) := by omega
  have im := ite_min
  rw [hss] at i1 i2 i3
  have HR := hid h
  clear h
  refine calls_marks Tryd.func52 rfl ?_
  simp only [Tryd.ntmps52, List.size_toArray, List.length_cons, List.length_nil, Nat.reduceAdd, Nat.reduceSub, Array.replicate_succ, Array.replicate_zero, List.push_toArray, List.append_toArray, List.nil_append, List.cons_append]
  go_wp2_with fail
  obtain ⟨W2, hW2⟩ : ∃ V, (w.alloc (.cells #[.int .i64 0] 3)).alloc (.cells #[.int .i64 0] 3) = V := ⟨_, rfl⟩
  have hB2 : Below w.heap.size w W2 := by rw [← hW2]; (repeat' (first | (with_reducible exact Below.refl _ _) | (with_reducible assumption) | (with_reducible refine Below.new ?_ _) | (with_reducible refine Below.alloc ?_ ?_ _) | (with_reducible refine Below.drew ?_) | (with_reducible refine Below.drewN ?_ _) | (with_reducible refine Below.setCell ?_ ?_ _) | (refine Below.step ?_ (by assumption)) | go_size))
  have hz2 : W2.heap.size = w.heap.size + 2 := by rw [← hW2]; simp
  have hA : W2.heap[w.heap.size]? = some (.cells #[.int .i64 0] 3 (0, 0)) := by rw [← hW2]; (simp (disch := first | omega | (simp only [World.size_alloc, World.size_setCell, World.size_drew]; done) | (simp only [World.size_alloc, World.size_setCell, World.size_drew]; omega)) only [heap_at, heap_past, heap_set_other, heap_set_same])
  have hBk : W2.heap[w.heap.size + 1]? = some (.cells #[.int .i64 0] 3 (0, 0)) := by rw [← hW2]; (simp (disch := first | omega | (simp only [World.size_alloc, World.size_setCell, World.size_drew]; done) | (simp only [World.size_alloc, World.size_setCell, World.size_drew]; omega)) only [heap_at, heap_past, heap_set_other, heap_set_same])
  rw [hW2]
  clear hW2
  have hb2 := (hB2.block b hbw).trans hh
  have p0 := World.plus_cell (cell_of_one hb2)
  refine wp_region_plus_tail (13) (by kernel_rfl) (by kernel_rfl) ?_
  simp only [List.take_succ_cons, List.take_zero, List.drop_succ_cons, List.drop_zero]
  repeat (first | go_big_quiet_skip | (go_big_quiet_want; go_big_quiet_op; first | go_big_quiet_on | go_big_quiet_call ((fail))))
  refine wpQuiet_nil ?_
  rintro _ ⟨xq, rfl⟩
  have kB := World.plus_below W2 xq
  have hAV := (kB.block w.heap.size (by omega)).trans hA
  have hBV := (kB.block (w.heap.size + 1) (by omega)).trans hBk
  have hzV := kB.size
  have hBV2 : Below w.heap.size w (World.plus W2 xq) := hB2.trans (kB.mono (by omega))
  obtain ⟨V, hV⟩ : ∃ V, World.plus W2 xq = V := ⟨_, rfl⟩
  rw [hV] at kB hAV hBV hzV hBV2
  rw [hV]
  clear hV p0 hb2 hA hBk kB
  go_wp2_with (go_at_call 76; ((with_reducible refine (digits_any _ _).mono ?_); rintro e w1 ⟨rfl, rfl⟩))
  have hT18 : (l.take 18).length ≤ 1000 := by simp; omega
  have c0 : (V.alloc (.cells #[.string t] 9)).cell? ⟨V.heap.size, 0, none⟩ = some (strL (l.take 18)) := by rw [← ht]; go_simp
  have HSeq := digits_seq (l.take 18) hT18 V.heap.size w.heap.size V.heap.size (V.heap.size + 1) (V.alloc (.cells #[.string t] 9)) (by omega) (by simp) (by simp; omega) c0
  rw [show (digL (l.take 18)).length = N by rw [← hN, ← hD]] at HSeq
  refine wp_rangeN (gf := 89) (lb := #[.pointer (some ⟨V.heap.size, 0, none⟩)]) rfl (enters_of Tryd.func89 (by kernel_rfl) rfl)
    HSeq (by simp; omega) (fun _ => rfl) (numJ D w) (fun _ _ _ => False) ?stab ?stabx ?start ?round ?done ?stop
  case stab => exact fun k => Stab.and Stab.block (Stab.and Stab.block (Stab.below (Nat.le_refl _) (by simp; omega)))
  case stabx => exact fun c k => Stab.pure _
  case start =>
    refine ⟨?_, ?_, hBV2.alloc (by omega) _⟩
    · rw [heap_past (by omega)]; exact hAV
    · rw [heap_past (by omega)]; exact hBV
  case stop =>
    intro D' c k X hD hk hX hK
    exact hX.elim
  case done =>
    intro D' X hD' hI hK
    obtain ⟨hA, hBk, hbel⟩ := hI
    simp only [World.size_alloc] at hD'
    have ht : D.take N = D := by rw [← hN, List.take_length]
    rw [ht] at hA
    have hbX := (hbel.block b hbw).trans hh
    have p0 := World.plus_cell (cell_of_one hbX); have p1 := World.plus_cell (cell_of_one hA); have p2 := World.plus_cell (cell_of_one hBk)
    have hzX := hbel.size
    obtain ⟨u, hu⟩ : ∃ u : ByteArray, ({ data := (l.drop N).toArray } : ByteArray) = u := ⟨_, rfl⟩
    have i5 : s.extract N l.length = u := by rw [← hu, ← hs]; exact extract_drop l N
    have i6 : (N : Int) ≤ (l.length : Int) := by omega
    go_wp2
    refine wp_region_plus_tail (8) (by kernel_rfl) (by kernel_rfl) ?_
    simp only [List.take_succ_cons, List.take_zero, List.drop_succ_cons, List.drop_zero]
    repeat (first | go_big_quiet_skip | (go_big_quiet_want; go_big_quiet_op; first | go_big_quiet_on | go_big_quiet_call ((fail))))
    refine wpQuiet_nil ?_
    rintro _ ⟨xq, rfl⟩
    have kB := World.plus_below X xq
    have hbV := (kB.block b (by omega)).trans hbX
    have hAV2 := (kB.block w.heap.size (blk_lt hA)).trans hA
    have hBV3 := (kB.block (w.heap.size + 1) (blk_lt hBk)).trans hBk
    have hKV := (kB.block D' (blk_lt hK)).trans hK
    have hbelV : Below w.heap.size w (World.plus X xq) := hbel.trans (kB.mono (by omega))
    obtain ⟨Y, hY⟩ : ∃ Y, World.plus X xq = Y := ⟨_, rfl⟩
    rw [hY] at hbV hAV2 hBV3 hKV hbelV
    rw [hY]
    clear p0 p1 p2 kB hY hbX hA hBk hK hbel hzX
    have r0 := cell_of_one hbV; have r1 := free_of_one hbV
    go_wp2
    obtain ⟨Z, hZ⟩ : ∃ Z, Y.setCell ⟨b, 0, none⟩ (.string u) = Z := ⟨_, rfl⟩
    have hZb : Z.heap[b]? = some (.cells #[.string u] 75 (0, 0)) := by rw [← hZ]; exact heap_set_same hbV
    have hZA : Z.heap[w.heap.size]? = some (.cells #[.int .i64 ((decV D : Nat) : Int)] 3 (0, 0)) := by rw [← hZ]; exact (heap_set_other (by omega)).trans hAV2
    have hZB : Z.heap[w.heap.size + 1]? = some (.cells #[.int .i64 (N : Int)] 3 (0, 0)) := by rw [← hZ]; exact (heap_set_other (by omega)).trans hBV3
    have hZK : Z.heap[D']? = some (.deferred (some [])) := by rw [← hZ]; exact (heap_set_other (by omega)).trans hKV
    have hZg : w.grownBy Z (some b) := by
      rw [← hZ]
      exact ⟨hbelV.os, hbelV.tape, hbelV.output, by simp only [World.size_setCell]; exact hbelV.size, fun i hi hne => (heap_set_other (fun e => hne (by rw [e]))).trans (hbelV.block i hi)⟩
    rw [hZ]
    clear hZ hbV hAV2 hBV3 hKV hbelV r0 r1
    have p1 := World.plus_cell (cell_of_one hZA); have p2 := World.plus_cell (cell_of_one hZB)
    refine wp_region_plus (by kernel_rfl) (by kernel_rfl) ?_
    repeat (first | go_big_quiet_skip | (go_big_quiet_want; go_big_quiet_op; first | go_big_quiet_on | go_big_quiet_call ((fail))))
    refine wpQuiet_nil ?_
    rintro _ ⟨xq, rfl⟩
    have kC := World.plus_below Z xq
    have hfb := (kC.block b (blk_lt hZb)).trans hZb
    have hfK := (kC.block D' (blk_lt hZK)).trans hZK
    have hfg : w.grownBy (World.plus Z xq) (some b) := hZg.andThen (below_none kC) (fun j e => by cases e)
    clear p1 p2
    obtain ⟨E, hE⟩ : ∃ E, World.plus Z xq = E := ⟨_, rfl⟩
    rw [hE] at hfb hfK hfg ⊢
    go_wp2
    refine ret_mark (.inl rfl) hfK fun w' hT => ?_
    refine ⟨.tuple #[.int .i64 ((decV D : Nat) : Int), .bool (decide (0 < N))], by simp only [results, Tryd.results52]; go_simp; try rfl, rfl, ?_, hfg.andThen hT.grown (fun j e => by cases e; exact .inl (by omega))⟩
    unfold RdAt
    rw [show strL (l.drop N) = Value.string u by rw [← hu]]
    exact (hT.block (blk_lt hfb) (by omega)).trans hfb
  case round =>
    intro l' k X hkN hI hl2 hlt hX
    obtain ⟨hA, hBk, hbel⟩ := hI
    simp only [World.size_alloc] at hl2 hX
    gi_wp2
    refine ⟨ProtN.refl _ _ _ _ _, fun W3 hT => ?_⟩
    have hkl : k < D.length := by omega
    have hD1 : isDig D[k] = true := HAll.out _ (List.getElem_mem hkl)
    have hg := HG.out k hkl
    have hv := decV_take hkl
    have hbd : decV (D.take k) < 10 ^ (D.take k).length := decV_bound fun c hc => HAll.out c (List.mem_of_mem_take hc)
    have hpw : (10 : Nat) ^ (D.take k).length ≤ 10 ^ 17 := Nat.pow_le_pow_right (by decide) (by rw [List.length_take]; omega)
    rw [← hg]
    have hDc : 48 ≤ D[k].toNat ∧ D[k].toNat ≤ 57 := by unfold isDig at hD1; simpa using hD1
    have hA3 := (hT.block (by omega) (by omega)).trans hA
    have hB3 := (hT.block (by omega) (by omega)).trans hBk
    have hbel3 : Below w.heap.size w W3 := (Stab.below (Nat.le_refl _) (Nat.le_refl _)).turn hbel hT (by omega)
    have a0 := cell_of_one hA3; have a1 := free_of_one hA3; have b0 := cell_of_one hB3; have b1 := free_of_one hB3
    obtain ⟨c, hc⟩ : ∃ c : Nat, D[k].toNat = c := ⟨_, rfl⟩
    obtain ⟨m, hm⟩ : ∃ m : Nat, decV (D.take k) = m := ⟨_, rfl⟩
    obtain ⟨m', hm'⟩ : ∃ m' : Nat, decV (D.take (k + 1)) = m' := ⟨_, rfl⟩
    rw [hm] at a0 hA3 hv hbd; rw [hc] at hDc hv; rw [hm'] at hv
    rw [hc]
    have e1 : (10 : Int) * (m : Int) + ((c : Int) - 48) = (m' : Int) := by omega
    have e2 : (m : Int) < 100000000000000000 := by omega
    have e3 : 48 ≤ (c : Int) ∧ (c : Int) ≤ 57 := by omega
    have E1 := hid e1
    have HM := hid hm'
    clear hpw hbd hv hm hm' hc hDc hg hD1 e1
    gi_wp2
    refine ⟨protN_set (protN_set (ProtN.refl _ _ _ _ _) (by simp) (by simp; omega) (by simp; omega) _) (by simp) (by simp; omega) (by simp; omega) _, ?_, ?_, (hbel3.setCell (by simp) _).setCell (by simp) _⟩
    · rw [heap_set_other (by omega), heap_set_same hA3, E1.out, HM.out]
    · rw [heap_set_same ((heap_set_other (by omega)).trans hB3)]
      rfl
end Go.Proofs.YtcdfbcmhikhnjaaDoor
/- Ratio: how a text is read, plainly; the program's conversions of its numbers. -/
namespace Go.Proofs.YtcdfbcmhikhnjaaDoor
set_option linter.unusedVariables false
set_option linter.unusedSimpArgs false
set_option maxRecDepth 100000
open Go.ChangeShapes Go.WideShapes Go.ChangeAt Go.RowKit Go.Fl
open Go.Lib (decDigits itoa)
open Go.ChangeMaps Go.MapKept

/-- What 'Parse' must give. -/
def ParseIs (l : List UInt8) (f : Nat) (e : Int) : Prop :=
  (e = 0 ∧ f < 2 ^ 64 ∧ textB f = l ∧ (isNan f = true → f = 9221120237041090561)) ∨ (e = 90 ∧ f = 0 ∧ ∀ b, b < 2 ^ 64 → textB b ≠ l)
theorem ParseIs.uniq {l : List UInt8} {f g : Nat} {e k : Int} (h : ParseIs l f e) (h' : ParseIs l g k) : f = g ∧ e = k := by
  rcases h with ⟨e1, f1, t1, n1⟩ | ⟨e1, f1, t1⟩ <;> rcases h' with ⟨e2, f2, t2, n2⟩ | ⟨e2, f2, t2⟩
  · refine ⟨?_, by omega⟩
    rcases textB_inj f1 f2 (t1.trans t2.symm) with h | ⟨h1, h2⟩
    · exact h
    · rw [n1 h1, n2 h2]
  · exact absurd t1 (t2 _ f1)
  · exact absurd t2 (t1 _ f2)
  · exact ⟨by omega, by omega⟩
theorem word_text {p : List UInt8 × Nat} (hp : p ∈ wordsL) : ParseIs p.1 p.2 0 := by
  refine .inl ⟨rfl, words_lt hp, key_text hp rfl, fun h => ?_⟩
  unfold wordsL at hp
  simp only [List.mem_cons, List.not_mem_nil, or_false] at hp
  rcases hp with rfl | rfl | rfl | rfl | rfl
  · exact absurd h (by decide +kernel)
  · exact absurd h (by decide +kernel)
  · exact absurd h (by decide +kernel)
  · exact absurd h (by decide +kernel)
  · rfl
/-- A number's text that is no word: its parts. -/
theorem text_parts {b : Nat} {l : List UInt8} (h : textB b = l) (hw : ∀ p ∈ wordsL, p.1 ≠ l) :
    ∃ K M, Rep (b % 2 ^ 63) K M ∧ l = (if sgn b then [45] else []) ++ (decDigits (oddM M) ++ 112 :: itoa ((K : Int) - 1074 + tz M)) := by
  obtain ⟨n1, n2, n3⟩ := key_other (b := b) (fun p hp hk => hw p hp (by rw [← h]; exact (key_text hp hk).symm))
  exact ⟨_, _, Rep.of n2 n3, by rw [← h]; exact text_fin n1 n2 n3⟩
theorem hd_cons (c d : UInt8) (l : List UInt8) : hdB c (d :: l) = (c == d) := by
  show ([c].isPrefixOf (d :: l)) = _
  simp [List.isPrefixOf]
theorem tl_cons (c d : UInt8) (l : List UInt8) : tlB c (d :: l) = if c == d then l else d :: l := by
  show (if Lib.hasPrefix (d :: l) [c] then List.drop 1 (d :: l) else d :: l) = _
  have := hd_cons c d l
  unfold hdB at this
  rw [this]
  cases c == d <;> rfl
theorem dig_not {c : UInt8} (h : isDig c = true) : c ≠ 45 ∧ c ≠ 112 := by
  unfold isDig at h
  simp at h
  constructor <;> (intro e; subst e; revert h; decide)
theorem dec_isDig (n : Nat) : ∀ c ∈ decDigits n, isDig c = true := fun c hc => by
  have := dec_digit n c hc
  unfold isDig
  simp
  exact this
theorem digL_app {D t : List UInt8} {x : UInt8} {n : Nat} (hD : ∀ c ∈ D, isDig c = true) (hx : isDig x = false) (hn : D.length < n) : digL ((D ++ x :: t).take n) = D := by
  induction D generalizing n with
  | nil =>
    obtain ⟨n, rfl⟩ : ∃ m, n = m + 1 := ⟨n - 1, by simp at hn; omega⟩
    simp [digL, hx]
  | cons a D ih =>
    obtain ⟨n, rfl⟩ : ∃ m, n = m + 1 := ⟨n - 1, by simp at hn; omega⟩
    have ha := hD a (by simp)
    have := ih (n := n) (fun c hc => hD c (by simp [hc])) (by simp at hn; omega)
    unfold digL at this ⊢
    simp [ha, this]
theorem digL_full {D : List UInt8} {n : Nat} (hD : ∀ c ∈ D, isDig c = true) (hn : D.length ≤ n) : digL (D.take n) = D := by
  rw [List.take_of_length_le hn]
  unfold digL
  clear hn
  induction D with
  | nil => rfl
  | cons a D ih => rw [List.takeWhile_cons, hD a (by simp), if_pos rfl, ih (fun c hc => hD c (by simp [hc]))]
theorem dec_cons (n : Nat) : ∃ c t, decDigits n = c :: t ∧ isDig c = true := by
  cases h : decDigits n with
  | nil => exact absurd h (dec_ne n)
  | cons c t => exact ⟨c, t, rfl, dec_isDig n c (by rw [h]; simp)⟩
/-- The text of a number is read as its parts. -/
theorem read_parts {s : Bool} {O : Nat} {E : Int} (hO : O < 2 ^ 53) (hE : -2000 ≤ E ∧ E ≤ 2000) {l l1 l2 l3 l4 l5 : List UInt8}
    (h : l = (if s then [45] else []) ++ (decDigits O ++ 112 :: itoa E)) (e1 : l1 = tlB 45 l) (e2 : l2 = l1.drop (numL l1).length) (e3 : l3 = tlB 112 l2) (e4 : l4 = tlB 45 l3) (e5 : l5 = l4.drop (numL l4).length) :
    hdB 45 l = s ∧ 0 < (numL l1).length ∧ decV (numL l1) = O ∧ hdB 112 l2 = true ∧ hdB 45 l3 = decide (E < 0) ∧ 0 < (numL l4).length ∧ decV (numL l4) = E.natAbs ∧ l5 = [] := by
  obtain ⟨c, t, hc, hd⟩ := dec_cons O
  have hl1 : hdB 45 l = s ∧ l1 = decDigits O ++ 112 :: itoa E := by
    cases s
    · simp only [Bool.false_eq_true, if_false, List.nil_append] at h
      have hne : ((45 : UInt8) == c) = false := by simp; exact fun e => (dig_not hd).1 e.symm
      rw [e1, h, hc, List.cons_append, hd_cons, tl_cons, hne]
      exact ⟨rfl, rfl⟩
    · simp only [if_true] at h
      rw [e1, h, List.singleton_append, hd_cons, tl_cons]
      exact ⟨rfl, rfl⟩
  have hn1 : numL l1 = decDigits O := by
    rw [hl1.2]
    exact digL_app (dec_isDig O) (by decide) (by have := dec_len 15 O (by omega); omega)
  have hl2 : l2 = 112 :: itoa E := by
    rw [e2, hn1, hl1.2, List.drop_left]
  have hl3 : l3 = itoa E := by
    rw [e3, hl2, tl_cons]
    rfl
  obtain ⟨c', t', hc', hd'⟩ := dec_cons E.natAbs
  have hl4 : hdB 45 l3 = decide (E < 0) ∧ l4 = decDigits E.natAbs := by
    rw [e4, hl3]
    unfold itoa
    by_cases hneg : E < 0
    · rw [if_pos hneg, hd_cons, tl_cons]
      exact ⟨by simp [hneg], rfl⟩
    · rw [if_neg hneg, show E.toNat = E.natAbs by omega, hc', hd_cons, tl_cons]
      have hne : ((45 : UInt8) == c') = false := by simp; exact fun e => (dig_not hd').1 e.symm
      rw [hne]
      exact ⟨by simp [hneg], rfl⟩
  have hn4 : numL l4 = decDigits E.natAbs := by
    rw [hl4.2]
    exact digL_full (dec_isDig _) (by have := dec_len 3 E.natAbs (by omega); omega)
  refine ⟨hl1.1, ?_, ?_, ?_, hl4.1, ?_, ?_, ?_⟩
  · rw [hn1, hc]; simp
  · rw [hn1, decV_dec]
  · rw [hl2, hd_cons]; rfl
  · rw [hn4, hc']; simp
  · rw [hn4, decV_dec]
  · rw [e5, hn4, hl4.2, List.drop_length]
theorem words_key {p : List UInt8 × Nat} (hp : p ∈ wordsL) (zd : DataW Unit) : wordsD.atKey (sB p.1) zd = .lit (.int .u64 p.2) := by
  rw [wordsD_is]
  unfold wordsL at hp
  simp only [List.mem_cons, List.not_mem_nil, or_false] at hp
  rcases hp with rfl | rfl | rfl | rfl | rfl <;> rfl
theorem words_lookup {B : Nat} {W : World} (h : W.ownsMap Tryd.prog 9 floatElem B 5 wordsD) (x : ByteArray) (hx : x.size ≤ 100) :
    ∃ f ok, (Instr.lookup 77 (.map (some B)) (.string x) true).run Tryd.prog W = .ok (.tuple #[.float .f64 f, .bool ok]) W ∧
      ((ok = true ∧ ∃ p ∈ wordsL, p.1 = x.data.toList ∧ f = p.2) ∨ (ok = false ∧ ∀ p ∈ wordsL, p.1 ≠ x.data.toList)) := by
  have hz : (zeroValue 24).run Tryd.prog W = .ok (.float .f64 0) W := by go_simp
  have hkey : keyOf Tryd.prog 9 (.string x) = some (sB x.data.toList) := by
    unfold keyOf mapKey
    simp only [Tryd.underlying9]
    rw [if_pos (by unfold maxLen; omega)]
    rfl
  obtain ⟨es, clock, hb, F, _, hD⟩ := h
  rcases Maps.fit_look true (Maps.string_keyed Tryd.underlying9) Tryd.underlying77 hz hb F hkey with ⟨hrun, _, hat⟩ | ⟨e0, y, _, _, hrun, hRv, hat, _⟩
  · refine ⟨0, false, hrun, .inr ⟨rfl, fun p hp e => ?_⟩⟩
    have h1 := hat (.lit (.bool true))
    rw [← hD, ← e, words_key hp] at h1
    cases h1
  · obtain ⟨c, hc⟩ := inv_flt _ _ hRv
    rw [hc] at hRv hrun
    have hy := flt_of c y hRv
    rw [← hD] at hat
    obtain ⟨p, hp, hk, hcp⟩ := word_at (c := c) (fun zd => (hat zd).trans hy)
    exact ⟨c, true, hrun, .inl ⟨rfl, p, hp, (Lit.string.inj hk).symm, hcp⟩⟩
end Go.Proofs.YtcdfbcmhikhnjaaDoor
/- Ratio: the numbers that a text is read as, and what is made of them. -/
namespace Go.Proofs.YtcdfbcmhikhnjaaDoor
set_option linter.unusedVariables false
set_option linter.unusedSimpArgs false
set_option maxRecDepth 100000
open Go.ChangeShapes Go.WideShapes Go.ChangeAt Go.RowKit Go.Fl
open Go.Lib (decDigits itoa)
attribute [local go_sem] ord_lt ord_eq ord_gt ord_ne

theorem cut_le (way : Ieee.Toward) (neg : Bool) (n d : Nat) : way.cut neg n d ≤ n + 1 := by
  unfold Ieee.Toward.cut
  have h2 : ∀ x : Bool, x.toNat ≤ 1 := by decide
  exact Nat.add_le_add (Nat.div_le_self _ _) (h2 _)
theorem nearest_of (m : Nat) : floatOfInt .f64 (m : Int) = Ieee.double.nearest false m 0 := by
  unfold floatOfInt FloatKind.nearest FloatKind.encode
  show Ieee.double.write _ = _
  unfold Ieee.Format.write
  have : decide ((m : Int) < 0) = false := by simp
  simp only [this, Int.natAbs_natCast]
/-- A whole number as a floating one; exactly, if it has at most 53 digits. -/
theorem float_any {m : Nat} (h0 : 0 < m) (h : m < 2 ^ 60) : ∃ r K M, floatOfInt .f64 (m : Int) = r ∧ Rep r K M ∧ 2 ^ 52 ≤ M ∧ (m < 2 ^ 53 → ∃ s, M = m * 2 ^ s ∧ K + s = 1074) := by
  rw [nearest_of]
  by_cases hm : m < 2 ^ 53
  · obtain ⟨s, M, hM, h1, h2, hs⟩ : ∃ s M, M = m * 2 ^ s ∧ 2 ^ 52 ≤ M ∧ M < 2 ^ 53 ∧ s ≤ 52 := by
      by_cases hA2 : m < 2 ^ 52
      · obtain ⟨s, a, b, c, d⟩ := up_53 h0 hA2
        exact ⟨s, _, rfl, c, d, a⟩
      · exact ⟨0, m, by simp, by omega, hm, by omega⟩
    have hR : Rep ((1074 - s) * 2 ^ 52 + M) (1074 - s) M := ⟨rfl, h2, .inr h1, by omega, by omega⟩
    refine ⟨_, _, _, ?_, hR, h1, fun _ => ⟨s, hM, by omega⟩⟩
    have := near_rep false hR (mag := m) (p := 1074) (.inr ⟨s, by omega, hM⟩)
    rw [word_false] at this
    simpa using this
  · have hl1 : 53 ≤ m.log2 := by
      have := (Nat.le_log2 (n := m) (k := 53) (by omega)).2 (by omega)
      exact this
    have hl2 : m.log2 < 60 := (Nat.log2_lt (by omega)).2 h
    obtain ⟨r, hr, b1, b2⟩ : ∃ r, Ieee.double.nearest false m 0 = r ∧ 2 ^ 52 ≤ r ∧ r < 2047 * 2 ^ 52 := by
      refine ⟨_, rfl, ?_⟩
      unfold Ieee.Format.nearest
      rw [lp, fb, bn, Fl.inr, if_neg (by omega)]
      dsimp only
      rw [word_false]
      have hlast : max ((0 : Int) + (m.log2 : Int) - ((52 : Nat) : Int)) (-1074) = (m.log2 : Int) - 52 := by omega
      rw [hlast]
      have hk := cut_le .even false (m <<< ((0 : Int) - ((m.log2 : Int) - 52)).toNat) ((m.log2 : Int) - 52 - 0).toNat
      have hs : ((0 : Int) - ((m.log2 : Int) - 52)).toNat = 0 := by omega
      rw [hs, Nat.shiftLeft_zero] at hk ⊢
      have ht : ((m.log2 : Int) - 52 - -1074).toNat = m.log2 + 1022 := by omega
      rw [ht]
      generalize Ieee.Toward.cut .even false m ((m.log2 : Int) - 52 - 0).toNat = k at *
      omega
    have hR := Rep.of (r := r) (by omega) b2
    refine ⟨r, _, _, hr, hR, ?_, fun h => absurd h hm⟩
    have := rung_parts r
    have := fK_or r
    unfold fM
    rw [if_neg (by omega)]
    omega
theorem ldexp_zero (n : Int) (w : World) : Calls Tryd.prog 53 #[.float .f64 0, .int .i64 n] w fun e w' => e = .returned (.float .f64 0) ∧ w = w' := by
  have HL : Hid (∀ W, Calls Tryd.prog 78 #[.float .f64 0, .int .i64 n] W fun e w' => e = .returned (.float .f64 0) ∧ W = w') := hid fun W => by
    have q := ord_eq 0 0
    rw [show eqB 0 0 = true by decide +kernel] at q
    go_enter Tryd.func78, Tryd.ntmps78
    go_wp2
    go_ret
    exact ⟨rfl, rfl⟩
  go_enter Tryd.func53, Tryd.ntmps53
  go_wp2_with (go_at_call 78; ((with_reducible refine (HL.out _).mono ?_); rintro e w1 ⟨rfl, rfl⟩))
  go_ret
  exact ⟨rfl, rfl⟩
theorem same_shift {m s M K J I : Nat} {n : Int} (hM : M = m * 2 ^ s) (hK : K + s = 1074) (h : Same2 m (1074 + n) J I) : Same2 M ((K : Int) + n) J I := by
  rcases h with ⟨d, e1, e2⟩ | ⟨d, e1, e2⟩
  · exact .inl ⟨d + s, by omega, by rw [hM, e2, Nat.pow_add, Nat.mul_assoc]⟩
  · by_cases hd : s ≤ d
    · refine .inr ⟨d - s, by omega, ?_⟩
      rw [e2, hM, Nat.mul_assoc, ← Nat.pow_add, show s + (d - s) = d by omega]
    · refine .inl ⟨s - d, by omega, ?_⟩
      rw [hM, e2, Nat.mul_assoc, ← Nat.pow_add, show d + (s - d) = s by omega]
/-- A whole number times a power of two. -/
theorem ldexp_int {m : Nat} (h : m < 2 ^ 60) (n : Int) (hn : -3000 ≤ n ∧ n ≤ 3000) : ∃ r, floatOfInt .f64 (m : Int) = r ∧ ∀ w, Calls Tryd.prog 53 #[.float .f64 r, .int .i64 n] w fun e w' =>
    (∃ z, e = .returned (.float .f64 z) ∧ z < 2 ^ 64 ∧ isNan z = false ∧ (m < 2 ^ 53 → ∀ t J I, Rep t J I → Same2 m (1074 + n) J I → z = t)) ∧ w = w' := by
  by_cases h0 : m = 0
  · subst h0
    refine ⟨0, by decide +kernel, fun w => (ldexp_zero n w).mono ?_⟩
    rintro e w' ⟨rfl, rfl⟩
    refine ⟨⟨0, rfl, by decide, by decide +kernel, fun _ t J I hR hS => ?_⟩, rfl⟩
    exfalso
    have := hR.pos
    rcases hS with ⟨d, e1, e2⟩ | ⟨d, e1, e2⟩
    · have : 0 < I * 2 ^ d := Nat.mul_pos this (Nat.two_pow_pos d)
      omega
    · rw [Nat.zero_mul] at e2; omega
  · obtain ⟨r, K, M, hr, hR, hM, hx⟩ := float_any (m := m) (by omega) h
    refine ⟨r, hr, fun w => ?_⟩
    have := ldexp_any false hR hM n hn w
    rw [word_false] at this
    refine this.mono ?_
    rintro e w' ⟨⟨z, rfl, z1, z2, hz⟩, rfl⟩
    refine ⟨⟨z, rfl, z2, z1, fun hm t J I hR' hS => ?_⟩, rfl⟩
    obtain ⟨s, e1, e2⟩ := hx hm
    have := hz hR' (same_shift e1 e2 hS)
    rw [word_false] at this
    exact this
theorem neg_of_word (s : Bool) {r : Nat} (h : r < 2 ^ 63) : Op.negFloat .f64 (Ieee.double.word s r) = Ieee.double.word (!s) r := by
  have h1 := neg_float h
  cases s
  · rw [word_false]; exact h1
  · rw [← h1]
    show r ^^^ 2 ^ 63 ^^^ 2 ^ 63 = r
    rw [Nat.xor_assoc, Nat.xor_self, Nat.xor_zero]
theorem neg_of_any {z : Nat} (h : z < 2 ^ 64) (hn : isNan z = false) : Op.negFloat .f64 z < 2 ^ 64 ∧ isNan (Op.negFloat .f64 z) = false := by
  rw [← word_parts h, neg_of_word _ (by omega)]
  have hr : z % 2 ^ 63 ≤ 2047 * 2 ^ 52 := by simpa [isNan] using hn
  obtain ⟨a, b⟩ := word_nan (!sgn z) hr
  exact ⟨b, a⟩
/-- A text of a number that is no word is read as just that number. -/
theorem parse_yes {b : Nat} (hb : b < 2 ^ 64) {l : List UInt8} (h : textB b = l) (hw : ∀ p ∈ wordsL, p.1 ≠ l) :
    ∃ (O : Nat) (E : Int), O < 2 ^ 53 ∧ (-2000 ≤ E ∧ E ≤ 2000) ∧ l = (if sgn b then [45] else []) ++ (decDigits O ++ 112 :: itoa E) ∧
      ∀ z, (∀ t J I, Rep t J I → Same2 O (1074 + E) J I → z = t) → (if sgn b then Op.negFloat .f64 z else z) = b := by
  obtain ⟨K, M, hR, hl⟩ := text_parts h hw
  have hK := hR.fin
  have hM := hR.m
  have hp := hR.pos
  have hz := tz_pow hp hM
  have hO := oddM_le M
  refine ⟨oddM M, (K : Int) - 1074 + tz M, by omega, by omega, hl, fun z hz => ?_⟩
  have hs : Same2 (oddM M) (1074 + ((K : Int) - 1074 + tz M)) K M := .inr ⟨tz M, by omega, (tz_spec M hp).1⟩
  have e := hz _ _ _ hR hs
  have hwp := word_parts hb
  rw [e]
  cases hsg : sgn b
  · rw [hsg, word_false] at hwp
    exact hwp
  · rw [hsg] at hwp
    rw [if_pos rfl, neg_float (by omega)]
    exact hwp
end Go.Proofs.YtcdfbcmhikhnjaaDoor
/- Ratio: the program's 'Parse'. -/
namespace Go.Proofs.YtcdfbcmhikhnjaaDoor
set_option linter.unusedVariables false
set_option linter.unusedSimpArgs false
set_option maxRecDepth 100000
open Go.ChangeShapes Go.WideShapes Go.ChangeAt Go.RowKit Go.Fl
open Go.Lib (decDigits itoa)
attribute [local go_sem] ord_lt ord_eq ord_gt ord_ne unary_neg_float

/-- The reader at its place, all that was there as it was. -/
structure RS (w : World) (R : Nat) (l : List UInt8) (X : World) : Prop where
  rd : RdAt R l X
  bel : Below w.heap.size w X
theorem rs_take (w : World) {R : Nat} (hR : w.heap.size ≤ R) (l : List UInt8) (c : UInt8) (X : World) (h : RS w R l X) :
    Calls Tryd.prog 51 #[.pointer (some ⟨R, 0, none⟩), .string { data := #[c] }] X fun e X' => e = .returned (.bool (hdB c l)) ∧ RS w R (tlB c l) X' := by
  refine (take_any R l c X h.rd).mono ?_
  rintro e X' ⟨rfl, rfl⟩
  exact ⟨rfl, heap_set_same h.rd, h.bel.setCell hR _⟩
theorem rs_number (w : World) {R : Nat} (hR : w.heap.size ≤ R) (l : List UInt8) (hl : l.length ≤ 100) (X : World) (h : RS w R l X) :
    Calls Tryd.prog 52 #[.pointer (some ⟨R, 0, none⟩)] X fun e X' => e = .returned (.tuple #[.int .i64 (decV (numL l) : Nat), .bool (decide (0 < (numL l).length))]) ∧ RS w R (l.drop (numL l).length) X' := by
  refine (number_any R l hl X h.rd).mono ?_
  rintro e X' ⟨rfl, h1, h2⟩
  exact ⟨rfl, h1, h.bel.grown h2 h.bel.size (fun k e => by cases e; exact hR)⟩
theorem tl_len (c : UInt8) (l : List UInt8) : (tlB c l).length ≤ l.length := by
  show (if _ then _ else _ : List UInt8).length ≤ _
  split <;> simp
theorem numL_bound (l : List UInt8) : decV (numL l) < 10 ^ 18 := by
  have h1 := decV_bound (digL_all (l.take 18))
  have h2 : (numL l).length ≤ (l.take 18).length := digL_le _
  rw [List.length_take] at h2
  have h3 : (10 : Nat) ^ (numL l).length ≤ 10 ^ 18 := Nat.pow_le_pow_right (by decide) (by omega)
  exact Nat.lt_of_lt_of_le h1 h3
theorem list_of {l : List UInt8} {s : ByteArray} (h : ({ data := l.toArray } : ByteArray) = s) : s.toList = l := by
  subst h
  rw [ByteArray.toList_eq]
theorem l5_ne {l : List UInt8} {s : ByteArray} (h : ({ data := l.toArray } : ByteArray) = s) (hn : ¬ s.toList = []) : l ≠ [] := by
  rw [list_of h] at hn
  exact hn
theorem text_ne {x l : List UInt8} {s : ByteArray} (h : ({ data := l.toArray } : ByteArray) = s) (hn : (x == s.toList) = false) : x ≠ l := by
  rw [list_of h] at hn
  simpa using hn
theorem text_is {x l : List UInt8} {s : ByteArray} (h : ({ data := l.toArray } : ByteArray) = s) (hn : (x == s.toList) = true) : x = l := by
  rw [list_of h] at hn
  simpa using hn
/-- A word of 64 bits that is a number. -/
def FinW (z : Nat) : Prop := z < 2 ^ 64 ∧ isNan z = false
set_option maxHeartbeats 8000000 in
theorem parse_any (l : List UInt8) (hl : l.length ≤ 100) (w : World) (hT : Tabs w) :
    Calls Tryd.prog 24 #[strL l] w fun e w' => (∃ f c, e = .returned (.tuple #[.float .f64 f, .int .i64 c]) ∧ ParseIs l f c) ∧ Below w.heap.size w w' := by
  obtain ⟨s, hs⟩ : ∃ s : ByteArray, ({ data := l.toArray } : ByteArray) = s := ⟨_, rfl⟩
  have hsl : s.data.toList = l := by rw [← hs]
  have hss : s.size ≤ 100 := by rw [← hs]; exact hl
  have WO := hid (fun W => words_any W)
  have LK := hid (fun (B : Nat) (W : World) (h : W.ownsMap Tryd.prog 9 floatElem B 5 wordsD) => words_lookup h s hss)
  have hRle : w.heap.size ≤ w.heap.size := Nat.le_refl _
  obtain ⟨l1, hl1⟩ : ∃ l1, tlB 45 l = l1 := ⟨_, rfl⟩
  obtain ⟨l2, hl2⟩ : ∃ l2, l1.drop (numL l1).length = l2 := ⟨_, rfl⟩
  obtain ⟨l3, hl3⟩ : ∃ l3, tlB 112 l2 = l3 := ⟨_, rfl⟩
  obtain ⟨l4, hl4⟩ : ∃ l4, tlB 45 l3 = l4 := ⟨_, rfl⟩
  obtain ⟨l5, hl5⟩ : ∃ l5, l4.drop (numL l4).length = l5 := ⟨_, rfl⟩
  have g1 : l1.length ≤ 100 := by have := tl_len 45 l; rw [hl1] at this; omega
  have g2 : l2.length ≤ 100 := by rw [← hl2, List.length_drop]; omega
  have g3 : l3.length ≤ 100 := by have := tl_len 112 l2; rw [hl3] at this; omega
  have g4 : l4.length ≤ 100 := by have := tl_len 45 l3; rw [hl4] at this; omega
  have K1 := hid (fun X h => rs_take w hRle l 45 X h); have K2 := hid (fun X h => rs_number w hRle l1 g1 X h)
  have K3 := hid (fun X h => rs_take w hRle l2 112 X h); have K4 := hid (fun X h => rs_take w hRle l3 45 X h)
  have K5 := hid (fun X h => rs_number w hRle l4 g4 X h)
  rw [hl1] at K1; rw [hl2] at K2; rw [hl3] at K3; rw [hl4] at K4; rw [hl5] at K5
  obtain ⟨d0, hd0⟩ : ∃ d, hdB 45 l = d := ⟨_, rfl⟩
  obtain ⟨k1, hk1⟩ : ∃ d, decide (0 < (numL l1).length) = d := ⟨_, rfl⟩
  obtain ⟨d2, hd2⟩ : ∃ d, hdB 112 l2 = d := ⟨_, rfl⟩
  obtain ⟨d3, hd3⟩ : ∃ d, hdB 45 l3 = d := ⟨_, rfl⟩
  obtain ⟨k4, hk4⟩ : ∃ d, decide (0 < (numL l4).length) = d := ⟨_, rfl⟩
  obtain ⟨m, hm⟩ : ∃ m, decV (numL l1) = m := ⟨_, rfl⟩
  obtain ⟨n, hn⟩ : ∃ m, decV (numL l4) = m := ⟨_, rfl⟩
  have hmb : m < 10 ^ 18 := by rw [← hm]; exact numL_bound _
  have hnb : n < 10 ^ 18 := by rw [← hn]; exact numL_bound _
  rw [hd0] at K1; rw [hk1, hm] at K2; rw [hd2] at K3; rw [hd3] at K4; rw [hk4, hn] at K5
  have HFAIL : Hid ((∀ p ∈ wordsL, p.1 ≠ l) → k1 = false ∨ d2 = false ∨ k4 = false ∨ 2000 < (n : Int) ∨ l5 ≠ [] → ParseIs l 0 90) := fun hw hf => .inr ⟨rfl, rfl, fun b hb hbt => by
    obtain ⟨O, E, h1, h2, h3, _⟩ := parse_yes hb hbt hw
    obtain ⟨a1, a2, a3, a4, a5, a6, a7, a8⟩ := read_parts h1 h2 h3 hl1.symm hl2.symm hl3.symm hl4.symm hl5.symm
    rcases hf with hf | hf | hf | hf | hf
    · rw [← hk1] at hf; have := of_decide_eq_false hf; omega
    · rw [a4] at hd2; rw [← hd2] at hf; cases hf
    · rw [← hk4] at hf; have := of_decide_eq_false hf; omega
    · rw [hn] at a7; omega
    · exact hf a8⟩
  have HFIN : Hid ((∀ p ∈ wordsL, p.1 ≠ l) → ∀ (z : Nat) (e : Int), e = (if d3 then -(n : Int) else (n : Int)) → (m < 2 ^ 53 → ∀ t J I, Rep t J I → Same2 m (1074 + e) J I → z = t) → textB (if d0 then Op.negFloat .f64 z else z) ≠ l → ParseIs l 0 90) := fun hw z e he hz hne => .inr ⟨rfl, rfl, fun b hb hbt => by
    obtain ⟨O, E, h1, h2, h3, h4⟩ := parse_yes hb hbt hw
    obtain ⟨a1, a2, a3, a4, a5, a6, a7, a8⟩ := read_parts h1 h2 h3 hl1.symm hl2.symm hl3.symm hl4.symm hl5.symm
    rw [hm] at a3; rw [hn] at a7; rw [hd3] at a5; rw [hd0] at a1
    have hE : e = E := by
      rw [he, a5]
      by_cases hneg : E < 0
      · simp [hneg]; omega
      · simp [hneg]; omega
    subst hE
    subst a3
    have := h4 z (hz h1)
    rw [← a1] at this
    rw [this] at hne
    exact hne hbt⟩
  have hTT : ∀ W, Below w.heap.size w W → Tabs W := fun W h => hT.below h (Nat.le_refl _)
  replace hTT := hid hTT
  have TX := hid (fun z (hz : FinW z) W (h : Tabs W) => text_any z hz.1 W h)
  obtain ⟨F, hF⟩ : ∃ F, floatOfInt .f64 (m : Int) = F := ⟨_, rfl⟩
  obtain ⟨Pm, hPm⟩ : ∃ P : Prop, (m < 2 ^ 53) = P := ⟨_, rfl⟩
  have HL : ∀ e : Int, -3000 ≤ e ∧ e ≤ 3000 → ∀ W, Calls Tryd.prog 53 #[.float .f64 F, .int .i64 e] W fun E W' => (∃ z, E = .returned (.float .f64 z) ∧ FinW z ∧ FinW (Op.negFloat .f64 z) ∧ Hid (Pm → ∀ t J I, Rep t J I → Same2 m (1074 + e) J I → z = t)) ∧ W = W' := fun e he W => by
    obtain ⟨r, hr, H⟩ := ldexp_int (m := m) (by omega) e he
    rw [← hF, hr]
    refine (H W).mono ?_
    rintro E W' ⟨⟨z, rfl, z1, z2, z3⟩, rfl⟩
    exact ⟨⟨z, rfl, ⟨z1, z2⟩, neg_of_any z1 z2, by rw [← hPm]; exact z3⟩, rfl⟩
  rw [hPm] at HFIN
  obtain ⟨mi, hmi⟩ : ∃ mi : Int, (m : Int) = mi := ⟨_, rfl⟩
  obtain ⟨ni, hni⟩ : ∃ ni : Int, (n : Int) = ni := ⟨_, rfl⟩
  have b1 : 0 ≤ mi := by omega
  have b2 : mi < 1000000000000000000 := by omega
  have b3 : 0 ≤ ni := by omega
  have b4 : ni < 1000000000000000000 := by omega
  have L1 := hid (fun (h : ni ≤ 2000) W => HL ni (by omega) W)
  have L2 := hid (fun (h : ni ≤ 2000) W => HL (-ni) (by omega) W)
  rw [hmi] at K2 hF
  rw [hni] at K5 HFAIL HFIN
  have hFF : ∀ W : World, (convert 3 24 (.int .i64 mi)).run Tryd.prog W = .ok (.float .f64 F) W := fun W => by
    rw [run_convert_int_float W 3 24 .i64 .f64 mi (by rw [Tryd.underlying3]; rfl) Tryd.underlying24, hF]
  rw [show strL l = Value.string s by rw [← hs]]
  clear HL hF hPm hmi hni hd0 hk1 hd2 hd3 hk4 hm hn hmb hnb hl1 hl2 hl3 hl4 hl5 g1 g2 g3 g4 hT hsl hss
  have HS := hid hs
  obtain ⟨s5, hs5⟩ : ∃ s5 : ByteArray, ({ data := l5.toArray } : ByteArray) = s5 := ⟨_, rfl⟩
  have HS5 := hid hs5
  clear hs5
  clear hs hl
  go_enter Tryd.func24, Tryd.ntmps24
  go_wp2
  refine wp_scope_fwd ?_
  go_wp2_with (first
    | (go_at_call 50; go_loud (refine (WO.out _).mono ?_; rintro e w1 ⟨rfl, hown, hb1⟩; have hrs : RS w w.heap.size l w1 := ⟨(by unfold RdAt; rw [show strL l = Value.string s by rw [← HS.out]]; exact (hb1.block _ (by simp)).trans (heap_at rfl)), (by (repeat' (first | (with_reducible exact Below.refl _ _) | (with_reducible assumption) | (with_reducible refine Below.new ?_ _) | (with_reducible refine Below.alloc ?_ ?_ _) | (with_reducible refine Below.drew ?_) | (with_reducible refine Below.drewN ?_ _) | (with_reducible refine Below.setCell ?_ ?_ _) | (refine Below.step ?_ (by assumption)) | go_size)))⟩; simp only [World.size_alloc] at hown; obtain ⟨f, ok, hlk, hcase⟩ := LK.out _ _ hown; rcases hcase with ⟨rfl, hcase⟩ | ⟨rfl, hcase⟩))
    | (go_at_call 51; first
      | ((with_reducible refine (K1.out _ (by assumption)).mono ?_); rintro e x1 ⟨rfl, hr1⟩)
      | ((with_reducible refine (K3.out _ (by assumption)).mono ?_); rintro e x3 ⟨rfl, hr3⟩)
      | ((with_reducible refine (K4.out _ (by assumption)).mono ?_); rintro e x4 ⟨rfl, hr4⟩))
    | (go_at_call 52; first
      | ((with_reducible refine (K2.out _ (by assumption)).mono ?_); rintro e x2 ⟨rfl, hr2⟩)
      | ((with_reducible refine (K5.out _ (by assumption)).mono ?_); rintro e x5 ⟨rfl, hr5⟩; have hc5 : x5.cell? ⟨w.heap.size, 0, none⟩ = some (.string s5) := (by rw [← HS5.out]; exact cell_of_one hr5.rd)))
    | (go_at_call 53; first
      | ((with_reducible refine (L1.out (by omega) _).mono ?_); rintro e x6 ⟨⟨z, rfl, z1, z2, z5⟩, rfl⟩)
      | ((with_reducible refine (L2.out (by omega) _).mono ?_); rintro e x6 ⟨⟨z, rfl, z1, z2, z5⟩, rfl⟩))
    | (go_at_call 28; go_loud ((with_reducible refine (TX.out _ (by assumption) _ (hTT.out _ hr5.bel)).mono ?_); rintro e x7 ⟨rfl, hb7⟩)))
  all_goals
    try (refine wp_goto ?_; go_step; refine jumpFwd_goto rfl ?_; go_wp2)
    try (refine wp_label ?_; go_wp2)
    (first | rw [jumpFwd_ret] | rw [Exit.noGoto_ret] | skip); ((show bodyPost _ _ _ _ _ _); refine bodyPost_ret (by simp only [results, Tryd.results24]; go_simp; try rfl) rfl ?_)
  all_goals
    first
    | (obtain ⟨p, hp, hp1, rfl⟩ := hcase
       refine ⟨⟨_, _, rfl, ?_⟩, by have := hrs.bel; (repeat' (first | (with_reducible exact Below.refl _ _) | (with_reducible assumption) | (with_reducible refine Below.new ?_ _) | (with_reducible refine Below.alloc ?_ ?_ _) | (with_reducible refine Below.drew ?_) | (with_reducible refine Below.drewN ?_ _) | (with_reducible refine Below.setCell ?_ ?_ _) | (refine Below.step ?_ (by assumption)) | go_size))⟩
       have hpl : p.1 = l := by rw [hp1, ← HS.out]
       rw [← hpl]
       exact word_text hp)
    | (have hw : ∀ p ∈ wordsL, p.1 ≠ l := fun p hp => by have := hcase p hp; rw [← HS.out] at this; exact this
       first
       | (refine ⟨⟨_, _, rfl, HFAIL.out hw (.inl (Bool.eq_false_iff.2 ‹¬ k1 = true›))⟩, hr2.bel⟩)
       | (refine ⟨⟨_, _, rfl, HFAIL.out hw (.inr (.inl (by have := ‹(!d2) = true›; simpa using this)))⟩, hr3.bel⟩)
       | (refine ⟨⟨_, _, rfl, HFAIL.out hw (.inr (.inr (.inl (Bool.eq_false_iff.2 ‹¬ k4 = true›))))⟩, hr5.bel⟩)
       | (refine ⟨⟨_, _, rfl, HFAIL.out hw (.inr (.inr (.inr (.inl ‹2000 < ni›))))⟩, hr5.bel⟩)
       | (refine ⟨⟨_, _, rfl, HFAIL.out hw (.inr (.inr (.inr (.inr (l5_ne HS5.out ‹¬ s5.toList = []›)))))⟩, hr5.bel⟩)
       | (refine ⟨⟨_, _, rfl, HFIN.out hw z (-ni) (by rw [if_pos ‹d3 = true›]) z5.out (by rw [if_pos ‹d0 = true›]; exact text_ne HS.out ‹(textB (Op.negFloat .f64 z) == s.toList) = false›)⟩, by have := hr5.bel; (repeat' (first | (with_reducible exact Below.refl _ _) | (with_reducible assumption) | (with_reducible refine Below.new ?_ _) | (with_reducible refine Below.alloc ?_ ?_ _) | (with_reducible refine Below.drew ?_) | (with_reducible refine Below.drewN ?_ _) | (with_reducible refine Below.setCell ?_ ?_ _) | (refine Below.step ?_ (by assumption)) | go_size))⟩)
       | (refine ⟨⟨_, _, rfl, HFIN.out hw z (-ni) (by rw [if_pos ‹d3 = true›]) z5.out (by rw [if_neg (Bool.eq_false_iff.1 ‹d0 = false›)]; exact text_ne HS.out ‹(textB z == s.toList) = false›)⟩, by have := hr5.bel; (repeat' (first | (with_reducible exact Below.refl _ _) | (with_reducible assumption) | (with_reducible refine Below.new ?_ _) | (with_reducible refine Below.alloc ?_ ?_ _) | (with_reducible refine Below.drew ?_) | (with_reducible refine Below.drewN ?_ _) | (with_reducible refine Below.setCell ?_ ?_ _) | (refine Below.step ?_ (by assumption)) | go_size))⟩)
       | (refine ⟨⟨_, _, rfl, HFIN.out hw z ni (by rw [if_neg (Bool.eq_false_iff.1 ‹d3 = false›)]) z5.out (by rw [if_pos ‹d0 = true›]; exact text_ne HS.out ‹(textB (Op.negFloat .f64 z) == s.toList) = false›)⟩, by have := hr5.bel; (repeat' (first | (with_reducible exact Below.refl _ _) | (with_reducible assumption) | (with_reducible refine Below.new ?_ _) | (with_reducible refine Below.alloc ?_ ?_ _) | (with_reducible refine Below.drew ?_) | (with_reducible refine Below.drewN ?_ _) | (with_reducible refine Below.setCell ?_ ?_ _) | (refine Below.step ?_ (by assumption)) | go_size))⟩)
       | (refine ⟨⟨_, _, rfl, HFIN.out hw z ni (by rw [if_neg (Bool.eq_false_iff.1 ‹d3 = false›)]) z5.out (by rw [if_neg (Bool.eq_false_iff.1 ‹d0 = false›)]; exact text_ne HS.out ‹(textB z == s.toList) = false›)⟩, by have := hr5.bel; (repeat' (first | (with_reducible exact Below.refl _ _) | (with_reducible assumption) | (with_reducible refine Below.new ?_ _) | (with_reducible refine Below.alloc ?_ ?_ _) | (with_reducible refine Below.drew ?_) | (with_reducible refine Below.drewN ?_ _) | (with_reducible refine Below.setCell ?_ ?_ _) | (refine Below.step ?_ (by assumption)) | go_size))⟩)
       | (refine ⟨⟨_, _, rfl, .inl ⟨rfl, z2.1, text_is HS.out ‹(textB (Op.negFloat .f64 z) == s.toList) = true›, fun h => by rw [z2.2] at h; cases h⟩⟩, by have := hr5.bel; (repeat' (first | (with_reducible exact Below.refl _ _) | (with_reducible assumption) | (with_reducible refine Below.new ?_ _) | (with_reducible refine Below.alloc ?_ ?_ _) | (with_reducible refine Below.drew ?_) | (with_reducible refine Below.drewN ?_ _) | (with_reducible refine Below.setCell ?_ ?_ _) | (refine Below.step ?_ (by assumption)) | go_size))⟩)
       | (refine ⟨⟨_, _, rfl, .inl ⟨rfl, z1.1, text_is HS.out ‹(textB z == s.toList) = true›, fun h => by rw [z1.2] at h; cases h⟩⟩, by have := hr5.bel; (repeat' (first | (with_reducible exact Below.refl _ _) | (with_reducible assumption) | (with_reducible refine Below.new ?_ _) | (with_reducible refine Below.alloc ?_ ?_ _) | (with_reducible refine Below.drew ?_) | (with_reducible refine Below.drewN ?_ _) | (with_reducible refine Below.setCell ?_ ?_ _) | (refine Below.step ?_ (by assumption)) | go_size))⟩))
end Go.Proofs.YtcdfbcmhikhnjaaDoor
/- Ratio: 'Parse' told by one value; the law's 'cut'. -/
namespace Go.Proofs.YtcdfbcmhikhnjaaDoor
set_option linter.unusedVariables false
set_option linter.unusedSimpArgs false
set_option maxRecDepth 100000
open Go.ChangeShapes Go.WideShapes Go.ChangeAt Go.RowKit Go.Fl
open Go.Lib (decDigits itoa)

/-- The number that a number's text is read as. -/
def canonB (b : Nat) : Nat := if isNan b then 9221120237041090561 else b
theorem canon_lt {b : Nat} (h : b < 2 ^ 64) : canonB b < 2 ^ 64 := by unfold canonB; split; exact (by decide); exact h
theorem canon_nan (b : Nat) : isNan (canonB b) = isNan b := by
  unfold canonB
  cases h : isNan b
  · rw [if_neg (by simp), h]
  · rw [if_pos rfl]; decide +kernel
theorem canon_text (b : Nat) : textB (canonB b) = textB b := by
  unfold canonB
  cases h : isNan b
  · rw [if_neg (by simp)]
  · rw [if_pos rfl]
    have e : textB 9221120237041090561 = [110, 97, 110] := by decide +kernel
    rw [e]; unfold textB; rw [h]; rfl
theorem canon_key (b : Nat) : keyI (canonB b) = keyI b := by
  unfold canonB
  cases h : isNan b
  · rw [if_neg (by simp)]
  · rw [if_pos rfl]
    have e : keyI 9221120237041090561 = -9223372036854775808 := by decide +kernel
    rw [e]; unfold keyI; rw [h]; rfl
theorem canon_is {b : Nat} {l : List UInt8} (hb : b < 2 ^ 64) (h : textB b = l) : ParseIs l (canonB b) 0 := by
  refine .inl ⟨rfl, canon_lt hb, (canon_text b).trans h, fun hn => ?_⟩
  rw [canon_nan] at hn
  unfold canonB
  rw [if_pos hn]
theorem parse_ex (l : List UInt8) : ∃ f c, ParseIs l f c := by
  by_cases h : ∃ b, b < 2 ^ 64 ∧ textB b = l
  · obtain ⟨b, hb, hl⟩ := h
    exact ⟨_, _, canon_is hb hl⟩
  · exact ⟨0, 90, .inr ⟨rfl, rfl, fun b hb hl => h ⟨b, hb, hl⟩⟩⟩
theorem parse_det {l : List UInt8} {f : Nat} {c : Int} (h : ParseIs l f c) (hl : l.length ≤ 100) (w : World) (hT : Tabs w) :
    Calls Tryd.prog 24 #[strL l] w fun e w' => e = .returned (.tuple #[.float .f64 f, .int .i64 c]) ∧ Below w.heap.size w w' := by
  refine (parse_any l hl w hT).mono ?_
  rintro e w' ⟨⟨g, k, rfl, h'⟩, hb⟩
  obtain ⟨rfl, rfl⟩ := h.uniq h'
  exact ⟨rfl, hb⟩
theorem body_len {r : Nat} (hr : r < 2 ^ 63) : (bodyT r).length ≤ 60 := by
  unfold bodyT
  split
  · decide
  · split
    · decide
    · rename_i h1 h2
      unfold finT
      have hp := rung_parts r
      have hm := fM_lt r
      have ho := fK_or r
      have hM : 0 < fM r := by
        rcases ho with h | h
        · rw [h] at hp; omega
        · omega
      have hz := tz_pow hM hm
      have l1 := dec_20 (n := oddM (fM r)) (by have := oddM_le (fM r); omega)
      have l2 := itoa_21 (n := (fK r : Int) - 1074 + tz (fM r)) (by omega)
      rw [List.length_append, List.length_cons]
      omega
theorem text_len (b : Nat) : (textB b).length ≤ 100 := by
  have := body_len (r := b % 2 ^ 63) (by omega)
  unfold textB
  split
  · decide
  · split
    · rw [List.length_cons]; omega
    · omega
theorem cut_take (s : ByteArray) (hs : s.size ≤ 9223372036854775807) (w : World) :
    Calls Tryd.prog 25 #[.string s] w fun e w' => e = .returned (strL (s.data.toList.take 60)) ∧ w' = w := by
  have im := ite_min
  have i1 : (0 : Int) ≤ min (s.size : Int) 60 := by omega
  have i2 : min (s.size : Int) 60 ≤ (s.size : Int) := by omega
  have i3 : Value.string (s.extract 0 (min (s.size : Int) 60).toNat) = strL (s.data.toList.take 60) := by
    obtain ⟨l, rfl⟩ : ∃ l : List UInt8, s = { data := l.toArray } := ⟨s.data.toList, by cases s; rfl⟩
    have h1 : ({ data := l.toArray } : ByteArray).size = l.length := rfl
    rw [extract_take, h1, show (min (l.length : Int) 60).toNat = min l.length 60 by omega]
    show strL (l.take (min l.length 60)) = strL (l.take 60)
    have : l.take (min l.length 60) = l.take 60 := by rw [List.take_eq_take_iff]; omega
    rw [this]
  rw [← i3]
  clear i3
  go_enter Tryd.func25, Tryd.ntmps25
  go_wp2
  go_ret
  exact ⟨rfl, rfl⟩
end Go.Proofs.YtcdfbcmhikhnjaaDoor
/- Ratio: the reference's 'scaled' and 'number'. -/
namespace Go.Proofs.YtcdfbcmhikhnjaaDoor
set_option linter.unusedVariables false
set_option linter.unusedSimpArgs false
set_option maxRecDepth 100000
open Go.ChangeShapes Go.WideShapes Go.ChangeAt Go.RowKit Go.Fl
attribute [local go_sem] ord_lt ord_eq ord_gt ord_ne

theorem reach_start {m : Nat} (h : m < 2 ^ 60) (e : Int) : ∃ F, floatOfInt .f64 (m : Int) = F ∧ ScReach m e 0 F := by
  by_cases h0 : m = 0
  · subst h0
    refine ⟨0, by decide +kernel, by decide, by decide +kernel, fun _ _ ⟨t, ht⟩ => ?_⟩
    exact absurd (at_pos ht) (by decide)
  · obtain ⟨r, K, M, hr, hR, hM, hx⟩ := float_any (m := m) (by omega) h
    have hn := word_num (neg := false) hR
    rw [word_false] at hn
    refine ⟨r, hr, hn.2.2.2.1, hn.1, fun hm _ _ => ?_⟩
    obtain ⟨s, e1, e2⟩ := hx hm
    exact ⟨K, M, hR, .inr ⟨s, by omega, e1⟩⟩
/-- What 'scaled' gives. -/
def ScPost (m : Nat) (e : Int) (z : Nat) : Prop := FinW z ∧ (m < 2 ^ 53 → -1074 ≤ e → e ≤ 1100 → ∀ t J I, Rep t J I → Same2 m (1074 + e) J I → z = t)
set_option maxHeartbeats 2000000 in
theorem scaled_any (m : Nat) (h : m < 2 ^ 60) (e : Int) (he : -2000 ≤ e ∧ e ≤ 2000) (w : World) :
    Calls Tryd.prog 55 #[.int .i64 (m : Int), .int .i64 e] w fun E w' => (∃ z, E = .returned (.float .f64 z) ∧ ScPost m e z) ∧ w = w' := by
  obtain ⟨F, hF, hR⟩ := reach_start h e
  have hFF : ∀ W : World, (convert 3 24 (.int .i64 (m : Int))).run Tryd.prog W = .ok (.float .f64 F) W := fun W => by
    rw [run_convert_int_float W 3 24 .i64 .f64 (m : Int) (by rw [Tryd.underlying3]; rfl) Tryd.underlying24, hF]
  obtain ⟨mi, hmi⟩ : ∃ mi : Int, (m : Int) = mi := ⟨_, rfl⟩
  rw [hmi] at hFF ⊢
  have HR := hid hR
  clear hR hF hmi h
  rcases Int.lt_or_le e 0 with h0 | h0
  · go_enter Tryd.func55, Tryd.ntmps55
    go_wp2
    refine wp_loop_rounds 1 ?_
    rw [rounds_succ]
    go_wp2
    go_loopw [5, 7] (fun f i wr => ∃ (k : Int) (g : Nat), k ≤ 0 ∧ e ≤ k ∧ -1100 ≤ k ∧ f = .float .f64 g ∧ i = .int .i64 k ∧ Hid (ScReach m e k g) ∧ wr = w) (fun _ i _ => (1100 + intOf i).toNat)
    case atStart => exact ⟨0, F, by omega, by omega, by omega, rfl, rfl, HR, rfl⟩
    case round =>
      obtain ⟨k, g, k1, k2, k3, rfl, rfl, hg, rfl⟩ := hrel
      by_cases hk : e < k ∧ -1100 < k
      · obtain ⟨z, hz, hz2⟩ := hg.out.down k1 hk.1
        have hk1 := hk.1
        have hk2 := hk.2
        have qM : ∀ W : World, (binOp .quo 24 (.float .f64 g) (.float .f64 4611686018427387904)).run Tryd.prog W = .ok (.float .f64 z) W := fun W => run_float_arith W .quo _ .f64 _ _ _ hz
        have HZ := hid hz2
        clear hz hz2 hg hk HR
        go_wp2
        go_roundw
        case rel => exact ⟨k - 1, z, by omega, by omega, by omega, rfl, by go_num, HZ, trivial⟩
        case measure => simp [intOf]; omega
      · have hpost : ScPost m e g := ⟨⟨hg.out.lt, hg.out.num⟩, fun a b c t J I r s => by
          obtain rfl : k = e := by omega
          exact hg.out.done a b r s⟩
        have HP := hid hpost
        clear hpost hg HR
        by_cases hke : e < k
        · have hk3 : ¬ -1100 < k := by omega
          go_wp2
          go_ret
          exact ⟨⟨g, rfl, HP.out⟩, rfl⟩
        · go_wp2
          go_ret
          exact ⟨⟨g, rfl, HP.out⟩, rfl⟩
  · go_enter Tryd.func55, Tryd.ntmps55
    go_wp2
    go_loopw [5, 6] (fun f i wr => ∃ (k : Int) (g : Nat), 0 ≤ k ∧ k ≤ e ∧ k ≤ 1100 ∧ f = .float .f64 g ∧ i = .int .i64 k ∧ Hid (ScReach m e k g) ∧ wr = w) (fun _ i _ => (1100 - intOf i).toNat)
    case atStart => exact ⟨0, F, by omega, by omega, by omega, rfl, rfl, HR, rfl⟩
    case round =>
      obtain ⟨k, g, k1, k2, k3, rfl, rfl, hg, rfl⟩ := hrel
      by_cases hk : k < e ∧ k < 1100
      · obtain ⟨z, hz, hz2⟩ := hg.out.up k1 hk.1
        have hk1 := hk.1
        have hk2 := hk.2
        have qM : ∀ W : World, (binOp .mul 24 (.float .f64 g) (.float .f64 4611686018427387904)).run Tryd.prog W = .ok (.float .f64 z) W := fun W => run_float_arith W .mul _ .f64 _ _ _ hz
        have HZ := hid hz2
        clear hz hz2 hg hk HR
        go_wp2
        go_roundw
        case rel => exact ⟨k + 1, z, by omega, by omega, by omega, rfl, by go_num, HZ, trivial⟩
        case measure => simp [intOf]; omega
      · have hpost : ScPost m e g := ⟨⟨hg.out.lt, hg.out.num⟩, fun a b c t J I r s => by
          obtain rfl : k = e := by omega
          exact hg.out.done a b r s⟩
        have HP := hid hpost
        clear hpost hg HR
        by_cases hke : k < e
        · have hk3 : ¬ k < 1100 := by omega
          go_wp2
          refine wp_loop_rounds 1 ?_
          rw [rounds_succ]
          go_wp2
          go_ret
          exact ⟨⟨g, rfl, HP.out⟩, rfl⟩
        · go_wp2
          refine wp_loop_rounds 1 ?_
          rw [rounds_succ]
          go_wp2
          go_ret
          exact ⟨⟨g, rfl, HP.out⟩, rfl⟩
/-- The reference's number of digits. -/
def numOk (l : List UInt8) : Bool := decide (1 ≤ l.length) && (decide (l.length ≤ 18) && (!(decide (1 < l.length) && (l[0]?.getD 0 == 48)) && l.all isDig))
def rnumI (l : List UInt8) : Int := if numOk l then (decV l : Int) else -1
theorem rnum_bad {l : List UInt8} (h : numOk l = false) : rnumI l = -1 := by unfold rnumI; rw [h]; rfl
theorem rnum_ok {l : List UInt8} (h : numOk l = true) : rnumI l = (decV l : Int) := by unfold rnumI; rw [h]; rfl
theorem decV_step {l : List UInt8} {k : Nat} {c : UInt8} (h : l[k]? = some c) : decV (l.take (k + 1)) = 10 * decV (l.take k) + (c.toNat - 48) := by
  obtain ⟨hk, rfl⟩ := List.getElem?_eq_some_iff.1 h
  rw [List.take_succ_eq_append_getElem hk, decV_snoc]
set_option maxHeartbeats 2000000 in
theorem rnumber_any (l : List UInt8) (hl : l.length ≤ 100) (w : World) :
    Calls Tryd.prog 54 #[strL l] w fun e w' => e = .returned (.int .i64 (rnumI l)) ∧ w = w' := by
  obtain ⟨s, hs⟩ : ∃ s : ByteArray, ({ data := l.toArray } : ByteArray) = s := ⟨_, rfl⟩
  have hss : (s.size : Int) = (l.length : Int) := by rw [← hs]; rfl
  have hss2 : s.size = l.length := by rw [← hs]; rfl
  have hat : ∀ (k : Nat) c, l[k]? = some c → ∃ h : k < s.size, s[k]'h = c := fun k c hc => by
    obtain ⟨h1, h2⟩ := List.getElem?_eq_some_iff.1 hc
    exact ⟨by rw [hss2]; exact h1, by subst hs; exact h2⟩
  rw [show strL l = Value.string s by rw [← hs]]
  obtain ⟨N, hN⟩ : ∃ N, l.length = N := ⟨_, rfl⟩
  have HAT := hid hat
  have HN := hid hN
  by_cases h1 : N < 1
  · have hr : rnumI l = -1 := rnum_bad (by unfold numOk; rw [hN, decide_eq_false (by omega)]; rfl)
    rw [hr]
    rw [hN] at hss hss2 hl
    clear hr hat hs hN hss2
    go_enter Tryd.func54, Tryd.ntmps54
    go_wp2
    go_ret
    exact ⟨rfl, rfl⟩
  · by_cases h2 : 18 < N
    · have hr : rnumI l = -1 := rnum_bad (by unfold numOk; rw [hN, decide_eq_false (show ¬ N ≤ 18 by omega), decide_eq_true (show 1 ≤ N by omega)]; rfl)
      rw [hr]
      rw [hN] at hss hss2 hl
      clear hr hat hs hN hss2
      go_enter Tryd.func54, Tryd.ntmps54
      go_wp2
      go_ret
      exact ⟨rfl, rfl⟩
    · have hidx : ∀ (k : Nat) c, l[k]? = some c → ∀ W : World, (Instr.index 9 (.string s) (.int .i64 (k : Int))).run Tryd.prog W = .ok (.int .u8 (c.toNat : Int)) W := fun k c hc W => by
        obtain ⟨h3, h4⟩ := hat k c hc
        rw [run_index_string W 9 s .i64 (k : Int) Tryd.underlying9, dif_pos ⟨by omega, by omega⟩]
        have e : ((k : Int)).toNat = k := by omega
        simp only [e, h4]
      obtain ⟨c0, hc0⟩ : ∃ c, l[0]? = some c := ⟨l[0]'(by omega), List.getElem?_eq_getElem (by omega)⟩
      have hix0 := hidx 0 c0 hc0
      rw [show ((0 : Nat) : Int) = 0 from rfl] at hix0
      have hg0 : l[0]?.getD 0 = c0 := by rw [hc0]; rfl
      have HIX := hid hidx
      have hN1 : ¬ (N : Int) < 1 := by omega
      have hN2 : ¬ 18 < (N : Int) := by omega
      obtain ⟨v0, hv0⟩ : ∃ v : Int, (c0.toNat : Int) = v := ⟨_, rfl⟩
      rw [hv0] at hix0
      have hoky : Hid ((1 < N ∧ c0 = 48) → rnumI l = -1) := fun ⟨a, b⟩ => rnum_bad (by
        unfold numOk
        rw [hN, hg0, b, decide_eq_true (show 1 ≤ N by omega), decide_eq_true (show N ≤ 18 by omega), decide_eq_true a]
        rfl)
      have hokn : Hid (¬ (1 < N ∧ c0 = 48) → numOk l = l.all isDig) := fun hne => by
        unfold numOk
        rw [hN, hg0, decide_eq_true (show 1 ≤ N by omega), decide_eq_true (show N ≤ 18 by omega)]
        have : (decide (1 < N) && (c0 == 48)) = false := by
          cases hb : (decide (1 < N) && (c0 == 48))
          · rfl
          · simp at hb; exact absurd hb hne
        rw [this]
        rfl
      have hv48 : c0 = 48 ↔ v0 = 48 := by
        rw [← hv0]
        constructor
        · rintro rfl; rfl
        · intro h; exact UInt8.toNat_inj.1 (by have : (48 : UInt8).toNat = 48 := rfl; omega)
      have hloop : Hid (¬ (1 < N ∧ c0 = 48) → ∀ (k : Nat), k ≤ N → (∀ j c, j < k → l[j]? = some c → isDig c = true) → (k < N → ∃ c, l[k]? = some c ∧ (isDig c = true ∨ rnumI l = -1)) ∧ (k = N → rnumI l = (decV (l.take k) : Int))) := fun hne k hk hp => by
        constructor
        · intro hlt
          obtain ⟨c, hc⟩ : ∃ c, l[k]? = some c := ⟨l[k]'(by omega), List.getElem?_eq_getElem (by omega)⟩
          refine ⟨c, hc, ?_⟩
          cases hd : isDig c
          · refine .inr (rnum_bad ?_)
            rw [hokn.out hne]
            rw [Bool.eq_false_iff]
            intro ha
            rw [List.all_eq_true] at ha
            have := ha c (List.mem_of_getElem? hc)
            rw [hd] at this; cases this
          · exact .inl rfl
        · intro he
          rw [rnum_ok (by
            rw [hokn.out hne, List.all_eq_true]
            intro c hc
            obtain ⟨j, hj, rfl⟩ := List.getElem_of_mem hc
            exact hp j _ (by omega) (List.getElem?_eq_getElem hj)), he, ← hN, List.take_length]
      rw [hN] at hss hss2 hl
      by_cases h3 : 1 < N ∧ c0 = 48
      · have hr := hoky.out h3
        rw [hr]
        have hv : v0 = 48 := hv48.1 h3.2
        subst hv
        have hN3 : 1 < (N : Int) := by omega
        clear hr hat hs hN hss2 hidx hv48 hc0 hg0 hv0
        go_enter Tryd.func54, Tryd.ntmps54
        go_wp2
        go_ret
        exact ⟨rfl, rfl⟩
      · have HLO := hid (hloop.out h3)
        have hcase : ¬ 1 < (N : Int) ∨ (1 < (N : Int) ∧ ¬ v0 = 48) := by
          by_cases ha : 1 < N
          · exact .inr ⟨by omega, fun h => h3 ⟨ha, hv48.2 h⟩⟩
          · exact .inl (by omega)
        obtain ⟨rr, hrr⟩ : ∃ rr, rnumI l = rr := ⟨_, rfl⟩
        rw [hrr] at HLO ⊢
        clear hat hs hN hss2 hidx hv48 hc0 hg0 hv0 hoky hokn hloop h3 hrr
        rcases hcase with hcase | ⟨hc1, hc2⟩
        all_goals
          go_enter Tryd.func54, Tryd.ntmps54
          go_wp2
          go_loopw [3, 4] (fun n i wr => ∃ k : Nat, k ≤ N ∧ n = .int .i64 (decV (l.take k) : Nat) ∧ i = .int .i64 (k : Int) ∧ Hid (∀ j c, j < k → l[j]? = some c → isDig c = true) ∧ wr = w) (fun _ i _ => N - (intOf i).toNat)
          case atStart => exact ⟨0, by omega, rfl, rfl, fun j c hj => absurd hj (by omega), rfl⟩
          case round =>
            obtain ⟨k, hk, rfl, rfl, hpre, rfl⟩ := hrel
            obtain ⟨q1, q2⟩ := HLO.out k hk hpre.out
            by_cases hkN : k < N
            · obtain ⟨c, hc, hcc⟩ := q1 hkN
              have hix := HIX.out k c hc
              have hds := decV_step hc
              have hbd : decV (l.take k) < 10 ^ (l.take k).length := decV_bound fun x hx => by
                obtain ⟨j, hj, rfl⟩ := List.getElem_of_mem hx
                rw [List.length_take] at hj
                rw [List.getElem_take]
                exact hpre.out j _ (by omega) (List.getElem?_eq_getElem (by omega))
              have hpw : (10 : Nat) ^ (l.take k).length ≤ 10 ^ 17 := Nat.pow_le_pow_right (by decide) (by rw [List.length_take]; omega)
              obtain ⟨v, hv⟩ : ∃ v : Int, (c.toNat : Int) = v := ⟨_, rfl⟩
              obtain ⟨m, hm⟩ : ∃ m : Int, ((decV (l.take k) : Nat) : Int) = m := ⟨_, rfl⟩
              obtain ⟨m', hm'⟩ : ∃ m : Int, ((decV (l.take (k + 1)) : Nat) : Int) = m := ⟨_, rfl⟩
              have b1 : 0 ≤ m := by omega
              have b2 : m < 100000000000000000 := by omega
              have b3 : 0 ≤ v := by omega
              have b4 : v ≤ 255 := by have := c.toNat_lt; omega
              have hkI : (k : Int) < (N : Int) := by omega
              have HC := hid hc
              have HM := hid hm'
              rw [hv] at hix
              rw [hm]
              by_cases hd : isDig c = true
              · have hD := hd
                unfold isDig at hD
                simp at hD
                have e1 : 10 * m + (v - 48) = m' := by omega
                have b5 : 48 ≤ v := by omega
                have b6 : v ≤ 57 := by omega
                have E1 := hid e1
                have HD := hid hd
                have b7 : ¬ v < 48 := by omega
                have b8 : ¬ 57 < v := by omega
                clear q1 q2 hcc hds hbd hpw hm hm' hv hc hd hD e1
                go_wp2
                go_roundw
                case rel => exact ⟨k + 1, by omega, by rw [HM.out, ← E1.out], by go_num, fun j x hj hx => by
                  by_cases hjk : j = k
                  · subst hjk
                    rw [HC.out] at hx
                    cases hx
                    exact HD.out
                  · exact hpre.out j x (by omega) hx, trivial⟩
                case measure => simp [intOf]; omega
              · have hr := hcc.resolve_left hd
                have HRR := hid hr
                have hdd : v < 48 ∨ (¬ v < 48 ∧ 57 < v) := by
                  unfold isDig at hd
                  simp at hd
                  omega
                clear q1 q2 hcc hds hbd hpw hm hm' hv hc hd hr
                rcases hdd with hd1 | ⟨hd1, hd2⟩
                · go_wp2
                  go_ret
                  exact ⟨by rw [HRR.out]; rfl, rfl⟩
                · go_wp2
                  go_ret
                  exact ⟨by rw [HRR.out]; rfl, rfl⟩
            · have hr := q2 (by omega)
              have HRR := hid hr
              obtain ⟨m, hm⟩ : ∃ m : Int, ((decV (l.take k) : Nat) : Int) = m := ⟨_, rfl⟩
              rw [hm] at HRR ⊢
              have hkI : ¬ (k : Int) < (N : Int) := by omega
              clear q1 q2 hr hm
              go_wp2
              go_ret
              exact ⟨by rw [HRR.out]; rfl, rfl⟩
end Go.Proofs.YtcdfbcmhikhnjaaDoor
/- Ratio: how the reference reads a text, plainly. -/
namespace Go.Proofs.YtcdfbcmhikhnjaaDoor
set_option linter.unusedVariables false
set_option linter.unusedSimpArgs false
set_option maxRecDepth 100000
open Go.ChangeShapes Go.WideShapes Go.ChangeAt Go.RowKit Go.Fl
open Go.Lib (decDigits itoa)

/-- How far the first 'p' stands. -/
def preP (l : List UInt8) : Nat := (l.takeWhile (fun c => !(c == 112))).length
theorem preP_le (l : List UInt8) : preP l ≤ l.length := (List.takeWhile_sublist _).length_le
theorem preP_at {l : List UInt8} {k : Nat} (h : k < preP l) : ∃ c, l[k]? = some c ∧ c ≠ 112 := by
  induction l generalizing k with
  | nil => simp [preP] at h
  | cons a l ih =>
    unfold preP at h ih
    rw [List.takeWhile_cons] at h
    by_cases ha : a = 112
    · subst ha; simp at h
    · rw [if_pos (by simpa using ha)] at h
      cases k with
      | zero => exact ⟨a, rfl, ha⟩
      | succ k => exact ih (k := k) (by simpa using h)
theorem preP_end {l : List UInt8} (h : preP l < l.length) : l[preP l]? = some 112 := by
  induction l with
  | nil => simp at h
  | cons a l ih =>
    unfold preP at h ih ⊢
    rw [List.takeWhile_cons] at h ⊢
    by_cases ha : a = 112
    · subst ha; simp
    · rw [if_pos (by simpa using ha)] at h ⊢
      simp at h ⊢
      exact ih h
theorem preP_app {D t : List UInt8} (hD : ∀ c ∈ D, c ≠ 112) : preP (D ++ 112 :: t) = D.length := by
  unfold preP
  congr 1
  induction D with
  | nil => simp
  | cons a D ih =>
    rw [List.cons_append, List.takeWhile_cons, if_pos (by simpa using hD a (by simp)), ih (fun c hc => hD c (by simp [hc]))]
theorem rnum_dec (n : Nat) (h : n < 2 ^ 53) : rnumI (decDigits n) = (n : Int) := by
  have hl := dec_len 15 n (by omega)
  obtain ⟨c, t, hc, hd⟩ := dec_cons n
  have hok : numOk (decDigits n) = true := by
    unfold numOk
    have h1 : 1 ≤ (decDigits n).length := by rw [hc]; simp
    have h2 : (decDigits n).all isDig = true := List.all_eq_true.2 (dec_isDig n)
    rw [h2, decide_eq_true h1, decide_eq_true (show (decDigits n).length ≤ 18 by omega)]
    by_cases h0 : n < 10
    · have : (decDigits n).length = 1 := by rw [decDigits, dif_pos h0]; rfl
      rw [this]; rfl
    · obtain ⟨c', t', hc', hne⟩ := dec_head (n := n) (by omega)
      rw [hc']
      have : (c' == 48) = false := by simpa using hne
      simp [this]
  rw [rnum_ok hok, decV_dec]
theorem rnum_cases (l : List UInt8) : rnumI l = -1 ∨ ∃ m : Nat, rnumI l = (m : Int) ∧ m < 10 ^ 18 := by
  cases h : numOk l
  · exact .inl (rnum_bad h)
  · refine .inr ⟨decV l, rnum_ok h, ?_⟩
    unfold numOk at h
    simp only [Bool.and_eq_true, decide_eq_true_eq] at h
    have h1 := decV_bound (ds := l) (List.all_eq_true.1 h.2.2.2)
    exact Nat.lt_of_lt_of_le h1 (Nat.pow_le_pow_right (by decide) h.2.1)
/-- A text of a number that is no word, by its parts. -/
theorem parse_yes2 {b : Nat} (hb : b < 2 ^ 64) {l : List UInt8} (h : textB b = l) (hw : ∀ p ∈ wordsL, p.1 ≠ l) :
    ∃ (O : Nat) (E : Int), 0 < O ∧ O < 2 ^ 53 ∧ (-1074 ≤ E ∧ E ≤ 1100) ∧ l = (if sgn b then [45] else []) ++ (decDigits O ++ 112 :: itoa E) ∧
      (∀ z, (∀ t J I, Rep t J I → Same2 O (1074 + E) J I → z = t) → z = b % 2 ^ 63) := by
  obtain ⟨K, M, hR, hl⟩ := text_parts h hw
  have hK := hR.fin
  have hM := hR.m
  have hp := hR.pos
  have hz := tz_pow hp hM
  have hO := oddM_le M
  have hk : K ≤ 2045 := by rcases hR.k with h | h <;> omega
  have hO0 : 0 < oddM M := by
    have := (tz_spec M hp).2
    unfold oddM
    refine Nat.pos_of_ne_zero fun h => ?_
    rw [h] at this
    cases this
  refine ⟨oddM M, (K : Int) - 1074 + tz M, hO0, by omega, by omega, hl, fun z hz => ?_⟩
  have hs : Same2 (oddM M) (1074 + ((K : Int) - 1074 + tz M)) K M := .inr ⟨tz M, by omega, (tz_spec M hp).1⟩
  exact hz _ _ _ hR hs
/-- The text of a number is read as its parts, by the reference. -/
theorem rread_parts {s : Bool} {O : Nat} {E : Int} (hO0 : 0 < O) (hO : O < 2 ^ 53) (hE : -1074 ≤ E ∧ E ≤ 1100) {l l1 e1 e2 : List UInt8}
    (h : l = (if s then [45] else []) ++ (decDigits O ++ 112 :: itoa E)) (h1 : l1 = tlB 45 l) (h2 : e1 = l1.drop (preP l1 + 1)) (h3 : e2 = tlB 45 e1) :
    hdB 45 l = s ∧ preP l1 < l1.length ∧ rnumI (l1.take (preP l1)) = (O : Int) ∧ hdB 45 e1 = decide (E < 0) ∧ rnumI e2 = (E.natAbs : Int) := by
  obtain ⟨c, t, hc, hd⟩ := dec_cons O
  have hl1 : hdB 45 l = s ∧ l1 = decDigits O ++ 112 :: itoa E := by
    cases s
    · simp only [Bool.false_eq_true, if_false, List.nil_append] at h
      have hne : ((45 : UInt8) == c) = false := by simp; exact fun e => (dig_not hd).1 e.symm
      rw [h1, h, hc, List.cons_append, hd_cons, tl_cons, hne]
      exact ⟨rfl, rfl⟩
    · simp only [if_true] at h
      rw [h1, h, List.singleton_append, hd_cons, tl_cons]
      exact ⟨rfl, rfl⟩
  have hP : preP l1 = (decDigits O).length := by
    rw [hl1.2]
    exact preP_app (fun c hc => (dig_not (dec_isDig O c hc)).2)
  have hE1 : e1 = itoa E := by
    rw [h2, hP, hl1.2, List.drop_append, List.drop_eq_nil_of_le (by omega), show (decDigits O).length + 1 - (decDigits O).length = 1 by omega]
    rfl
  obtain ⟨c', t', hc', hd'⟩ := dec_cons E.natAbs
  have he2 : hdB 45 e1 = decide (E < 0) ∧ e2 = decDigits E.natAbs := by
    rw [h3, hE1]
    unfold itoa
    by_cases hneg : E < 0
    · rw [if_pos hneg, hd_cons, tl_cons]
      exact ⟨by simp [hneg], rfl⟩
    · rw [if_neg hneg, show E.toNat = E.natAbs by omega, hc', hd_cons, tl_cons]
      have hne : ((45 : UInt8) == c') = false := by simp; exact fun e => (dig_not hd').1 e.symm
      rw [hne]
      exact ⟨by simp [hneg], rfl⟩
  refine ⟨hl1.1, ?_, ?_, he2.1, ?_⟩
  · rw [hP, hl1.2, List.length_append, List.length_cons]; omega
  · rw [hP, hl1.2, List.take_left]
    exact rnum_dec O hO
  · rw [he2.2]
    exact rnum_dec _ (by omega)
/-- No text begins with '-' and goes on with 'nan'. -/
theorem no_minus_nan (b : Nat) : textB b ≠ [45, 110, 97, 110] := by
  intro h
  unfold textB at h
  obtain ⟨c, l, hc, h1, h2⟩ := bodyT_head (b % 2 ^ 63)
  rw [hc] at h
  cases hn : isNan b <;> rw [hn] at h
  · cases hs : sgn b <;> rw [hs] at h
    · simp only [Bool.false_eq_true, if_false, List.cons.injEq] at h
      exact h1 h.1
    · simp only [Bool.false_eq_true, if_false, if_true, List.cons.injEq, true_and] at h
      exact h2 h.1
  · simp at h
end Go.Proofs.YtcdfbcmhikhnjaaDoor
/- Ratio: the reference's 'Parse'. -/
namespace Go.Proofs.YtcdfbcmhikhnjaaDoor
set_option linter.unusedVariables false
set_option linter.unusedSimpArgs false
set_option maxRecDepth 100000
open Go.ChangeShapes Go.WideShapes Go.ChangeAt Go.RowKit Go.Fl
open Go.Lib (decDigits itoa)
attribute [local go_sem] ord_lt ord_eq ord_gt ord_ne

/-- What the end of the reference's 'Parse' makes of a number z. -/
structure EndIs (l : List UInt8) (d0 : Bool) (z : Nat) : Prop where
  lt : z < 2 ^ 64
  yes : textB (if d0 then Ieee.double.word true (z % 2 ^ 63) else z) = l → ParseIs l (if d0 then Ieee.double.word true (z % 2 ^ 63) else z) 0
  no : textB (if d0 then Ieee.double.word true (z % 2 ^ 63) else z) ≠ l → ParseIs l 0 90
theorem tl_eq {c : UInt8} {l : List UInt8} (h : hdB c l = true) : l = c :: tlB c l := by
  cases l with
  | nil => cases h
  | cons d l =>
    rw [hd_cons] at h
    have : c = d := by simpa using h
    subst this
    rw [tl_cons]
    simp
theorem tl_same {c : UInt8} {l : List UInt8} (h : hdB c l = false) : tlB c l = l := by
  cases l with
  | nil => rfl
  | cons d l =>
    rw [hd_cons] at h
    rw [tl_cons, h]
    rfl
/-- The rest of a text that is a word, without its sign. -/
theorem end_word {l l1 : List UInt8} {d0 : Bool} (h1 : tlB 45 l = l1) (h0 : hdB 45 l = d0) {z : Nat} (hz : (l1, z) ∈ [([110, 97, 110], 9221120237041090561), ([105, 110, 102], 9218868437227405312), ([48], 0)]) : EndIs l d0 z := by
  have hzl : z < 2 ^ 64 := by
    simp only [List.mem_cons, List.not_mem_nil, or_false, Prod.mk.injEq] at hz
    rcases hz with ⟨_, rfl⟩ | ⟨_, rfl⟩ | ⟨_, rfl⟩ <;> decide
  cases d0
  · have hl : l = l1 := by rw [← h1]; exact (tl_same h0).symm
    subst hl
    have hm : (l, z) ∈ wordsL := by
      unfold wordsL
      simp only [List.mem_cons, List.not_mem_nil, or_false, Prod.mk.injEq] at hz ⊢
      rcases hz with h | h | h
      · exact .inr (.inr (.inr (.inr h)))
      · exact .inr (.inr (.inr (.inl h)))
      · exact .inr (.inr (.inl h))
    have hp := word_text hm
    refine ⟨hzl, fun _ => hp, fun hne => ?_⟩
    exact absurd (key_text hm rfl) hne
  · have hl : l = 45 :: l1 := by rw [← h1]; exact tl_eq h0
    simp only [List.mem_cons, List.not_mem_nil, or_false, Prod.mk.injEq] at hz
    rcases hz with ⟨rfl, rfl⟩ | ⟨rfl, rfl⟩ | ⟨rfl, rfl⟩
    · refine ⟨hzl, fun h => ?_, fun _ => .inr ⟨rfl, rfl, fun b _ hb => no_minus_nan b (hb.trans hl)⟩⟩
      rw [hl] at h
      exact absurd h (no_minus_nan _)
    · have hm : ([45, 105, 110, 102], 18442240474082181120) ∈ wordsL := by unfold wordsL; simp
      have e : (if true = true then Ieee.double.word true (9218868437227405312 % 2 ^ 63) else 9218868437227405312) = 18442240474082181120 := by decide +kernel
      rw [hl]
      refine ⟨hzl, fun _ => by rw [e]; exact word_text hm, fun hne => ?_⟩
      rw [e] at hne
      exact absurd (key_text hm rfl) hne
    · have hm : ([45, 48], 9223372036854775808) ∈ wordsL := by unfold wordsL; simp
      have e : (if true = true then Ieee.double.word true (0 % 2 ^ 63) else 0) = 9223372036854775808 := by decide +kernel
      rw [hl]
      refine ⟨hzl, fun _ => by rw [e]; exact word_text hm, fun hne => ?_⟩
      rw [e] at hne
      exact absurd (key_text hm rfl) hne
theorem not_words {l l1 : List UInt8} (h1 : tlB 45 l = l1) (n1 : l1 ≠ [110, 97, 110]) (n2 : l1 ≠ [105, 110, 102]) (n3 : l1 ≠ [48]) : ∀ p ∈ wordsL, p.1 ≠ l := by
  intro p hp e
  unfold wordsL at hp
  simp only [List.mem_cons, List.not_mem_nil, or_false] at hp
  rcases hp with rfl | rfl | rfl | rfl | rfl <;> (rw [← e] at h1; revert n1 n2 n3; rw [← h1]; decide)
/-- Where the numbers are not right, no number has this text. -/
theorem end_bad {l l1 e1 e2 : List UInt8} (h1 : tlB 45 l = l1) (he1 : l1.drop (preP l1 + 1) = e1) (he2 : tlB 45 e1 = e2) (hw : ∀ p ∈ wordsL, p.1 ≠ l) (hb : preP l1 = l1.length ∨ rnumI (l1.take (preP l1)) < 0 ∨ rnumI e2 < 0 ∨ 2000 < rnumI e2) : ParseIs l 0 90 :=
  .inr ⟨rfl, rfl, fun b hb' hbt => by
    obtain ⟨O, E, o1, o2, o3, o4, _⟩ := parse_yes2 hb' hbt hw
    obtain ⟨a1, a2, a3, a4, a5⟩ := rread_parts o1 o2 o3 o4 h1.symm he1.symm he2.symm
    rcases hb with h | h | h | h
    · omega
    · rw [a3] at h; omega
    · rw [a5] at h; omega
    · rw [a5] at h; omega⟩
/-- A number that was read. -/
theorem end_num {l l1 e1 e2 : List UInt8} {d0 d3 : Bool} (h1 : tlB 45 l = l1) (h0 : hdB 45 l = d0) (he1 : l1.drop (preP l1 + 1) = e1) (he2 : tlB 45 e1 = e2) (h3 : hdB 45 e1 = d3) (hw : ∀ p ∈ wordsL, p.1 ≠ l) {m z : Nat} {n e : Int}
    (hm : rnumI (l1.take (preP l1)) = (m : Int)) (hn : rnumI e2 = n) (hn0 : 0 ≤ n) (he : e = if d3 then -n else n) (hz : ScPost m e z) : EndIs l d0 z := by
  have hnz := hz.1
  refine ⟨hnz.1, fun h => ?_, fun hne => .inr ⟨rfl, rfl, fun b hb hbt => ?_⟩⟩
  · cases d0
    · exact .inl ⟨rfl, hnz.1, h, fun hn => by rw [if_neg (by simp)] at hn; rw [hnz.2] at hn; cases hn⟩
    · have hr : z % 2 ^ 63 ≤ 2047 * 2 ^ 52 := by have := hnz.2; simpa [isNan] using this
      obtain ⟨a, b⟩ := word_nan true hr
      exact .inl ⟨rfl, b, h, fun hn => by rw [if_pos rfl, a] at hn; cases hn⟩
  · obtain ⟨O, E, o1, o2, o3, o4, o5⟩ := parse_yes2 hb hbt hw
    obtain ⟨a1, a2, a3, a4, a5⟩ := rread_parts o1 o2 o3 o4 h1.symm he1.symm he2.symm
    rw [h0] at a1
    rw [h3] at a4
    have hmO : m = O := by rw [hm] at a3; omega
    have heE : e = E := by
      rw [hn] at a5
      rw [he, a4]
      by_cases hneg : E < 0
      · simp [hneg]; omega
      · simp [hneg]; omega
    subst hmO
    subst heE
    have hzz := o5 z (hz.2 o2 o3.1 o3.2)
    have hwp := word_parts hb
    have : (if d0 then Ieee.double.word true (z % 2 ^ 63) else z) = b := by
      rw [a1]
      cases hs : sgn b
      · rw [hs, word_false] at hwp
        rw [if_neg (by simp), hzz]; exact hwp
      · rw [hs] at hwp
        rw [if_pos rfl, hzz, Nat.mod_mod]; exact hwp
    rw [this] at hne
    exact hne hbt
end Go.Proofs.YtcdfbcmhikhnjaaDoor
/- Ratio: the reference's 'Parse', walked. -/
namespace Go.Proofs.YtcdfbcmhikhnjaaDoor
set_option linter.unusedVariables false
set_option linter.unusedSimpArgs false
set_option maxRecDepth 100000
open Go.ChangeShapes Go.WideShapes Go.ChangeAt Go.RowKit Go.Fl
open Go.Lib (decDigits itoa)
attribute [local go_sem] ord_lt ord_eq ord_gt ord_ne

theorem slice_from {l : List UInt8} {s : ByteArray} (hs : ({ data := l.toArray } : ByteArray) = s) {k : Nat} (hk : k ≤ l.length) {i : Int} (hi : i = (k : Int)) {r : ByteArray} (hr : ({ data := (l.drop k).toArray } : ByteArray) = r) (W : World) :
    (Instr.slice 9 (.string s) (some (.int .i64 i)) none none).run Tryd.prog W = .ok (.string r) W := by
  have hsz : s.size = l.length := by rw [← hs]; rfl
  subst hi
  rw [run_slice_string_l (P := Tryd.prog) (w := W) (t := 9) (s := s) (ht := Tryd.underlying9) .i64 (k : Int) (by omega) (by omega)]
  rw [show ((k : Int)).toNat = k by omega, hsz, ← hs, extract_drop, hr]
theorem slice_to {l : List UInt8} {s : ByteArray} (hs : ({ data := l.toArray } : ByteArray) = s) {k : Nat} (hk : k ≤ l.length) {r : ByteArray} (hr : ({ data := (l.take k).toArray } : ByteArray) = r) (W : World) :
    (Instr.slice 9 (.string s) none (some (.int .i64 (k : Int))) none).run Tryd.prog W = .ok (.string r) W := by
  have hsz : s.size = l.length := by rw [← hs]; rfl
  rw [run_slice_string_h (P := Tryd.prog) (w := W) (t := 9) (s := s) (ht := Tryd.underlying9) .i64 (k : Int) (by omega) (by omega)]
  rw [show ((k : Int)).toNat = k by omega, ← hs, extract_take, hr]
theorem index_of {l : List UInt8} {s : ByteArray} (hs : ({ data := l.toArray } : ByteArray) = s) {k : Nat} {c : UInt8} (hc : l[k]? = some c) (W : World) :
    (Instr.index 9 (.string s) (.int .i64 (k : Int))).run Tryd.prog W = .ok (.int .u8 (c.toNat : Int)) W := by
  obtain ⟨h1, h2⟩ := List.getElem?_eq_some_iff.1 hc
  have hsz : s.size = l.length := by rw [← hs]; rfl
  rw [run_index_string W 9 s .i64 (k : Int) Tryd.underlying9, dif_pos ⟨by omega, by omega⟩]
  have e : ((k : Int)).toNat = k := by omega
  have h4 : s[k]'(by omega) = c := by subst hs; exact h2
  simp only [e, h4]
theorem head_is {l : List UInt8} {c : UInt8} (hc : l[0]? = some c) : hdB 45 l = ((c.toNat : Int) == 45) := by
  cases l with
  | nil => cases hc
  | cons d l =>
    cases hc
    rw [hd_cons, Bool.eq_iff_iff]
    simp
    constructor
    · rintro rfl; rfl
    · intro h; exact UInt8.toNat_inj.1 (by have : (45 : UInt8).toNat = 45 := rfl; omega)
theorem wt_lt (z : Nat) : Ieee.double.word true (z % 2 ^ 63) < 2 ^ 64 := (word_mod true (by omega)).2.2
theorem end_t {l : List UInt8} {z : Nat} (h : EndIs l true z) : ∃ (zc : Nat) (T : List UInt8), Hid (∀ W, Calls Tryd.prog 56 #[.float .f64 z, .float .f64 13830554455654793216] W fun e w' => e = .returned (.float .f64 zc) ∧ W = w') ∧
    Hid (∀ W, Calls Tryd.prog 29 #[.float .f64 zc] W fun e w' => e = .returned (strL T) ∧ Below W.heap.size W w') ∧ Hid (T = l → ParseIs l zc 0) ∧ Hid (T ≠ l → ParseIs l 0 90) := by
  refine ⟨Ieee.double.word true (z % 2 ^ 63), _, fun W => ?_, fun W => rtext_any _ (wt_lt z) W, fun ht => h.yes ht, fun ht => h.no ht⟩
  have := copysign_any z 13830554455654793216 h.lt (by decide) W
  rw [show sgn 13830554455654793216 = true by decide +kernel] at this
  exact this
theorem end_f {l : List UInt8} {z : Nat} (h : EndIs l false z) : ∃ (T : List UInt8),
    Hid (∀ W, Calls Tryd.prog 29 #[.float .f64 z] W fun e w' => e = .returned (strL T) ∧ Below W.heap.size W w') ∧ Hid (T = l → ParseIs l z 0) ∧ Hid (T ≠ l → ParseIs l 0 90) :=
  ⟨_, fun W => rtext_any _ h.lt W, fun ht => h.yes ht, fun ht => h.no ht⟩
theorem cmp_ne {x l : List UInt8} {s : ByteArray} (h : ({ data := l.toArray } : ByteArray) = s) (hn : (!(x == s.toList)) = true) : x ≠ l := by
  rw [list_of h] at hn
  simpa using hn
theorem cmp_is {x l : List UInt8} {s : ByteArray} (h : ({ data := l.toArray } : ByteArray) = s) (hn : (!(x == s.toList)) = false) : x = l := by
  rw [list_of h] at hn
  simpa using hn
theorem rparse_nil (w : World) : Calls Tryd.prog 26 #[strL []] w fun e w' => (∃ f c, e = .returned (.tuple #[.float .f64 f, .int .i64 c]) ∧ ParseIs [] f c) ∧ Below w.heap.size w w' := by
  have hp : ParseIs [] 0 90 := end_bad (l := []) (l1 := []) (e1 := []) (e2 := []) rfl rfl rfl (by decide) (.inl rfl)
  have HP := hid hp
  clear hp
  go_enter Tryd.func26, Tryd.ntmps26
  go_wp2
  refine wp_loop_rounds 1 ?_
  rw [rounds_succ]
  go_wp2
  go_ret2
  exact ⟨⟨_, _, rfl, HP.out⟩, by (repeat' (first | (with_reducible exact Below.refl _ _) | (with_reducible assumption) | (with_reducible refine Below.new ?_ _) | (with_reducible refine Below.alloc ?_ ?_ _) | (with_reducible refine Below.drew ?_) | (with_reducible refine Below.drewN ?_ _) | (with_reducible refine Below.setCell ?_ ?_ _) | (refine Below.step ?_ (by assumption)) | go_size))⟩
/-- What stands behind the 'p'. -/
def TailIs (l : List UInt8) (d0 : Bool) (eb : ByteArray) (M1 : Int) : Prop :=
  ((eb.size : Int) = 0 ∧ Hid (∀ W, Calls Tryd.prog 54 #[.string eb] W fun e w' => e = .returned (.int .i64 (-1)) ∧ W = w') ∧ Hid (ParseIs l 0 90)) ∨
  ∃ (K v1 n : Int) (d3 : Bool) (e2b : ByteArray), (eb.size : Int) = K ∧ 0 < K ∧ (∀ W : World, (Instr.index 9 (.string eb) (.int .i64 0)).run Tryd.prog W = .ok (.int .u8 v1) W) ∧ (v1 == 45) = d3 ∧
    ((d3 = true ∧ ∀ W : World, (Instr.slice 9 (.string eb) (some (.int .i64 1)) none none).run Tryd.prog W = .ok (.string e2b) W) ∨ (d3 = false ∧ eb = e2b)) ∧
    Hid (∀ W, Calls Tryd.prog 54 #[.string e2b] W fun e w' => e = .returned (.int .i64 n) ∧ W = w') ∧ -1 ≤ n ∧ n < 1000000000000000000 ∧
    Hid (M1 < 0 ∨ n < 0 ∨ 2000 < n → ParseIs l 0 90) ∧
    Hid (∀ (z : Nat) (e : Int), 0 ≤ M1 → 0 ≤ n → e = (if d3 then -n else n) → ScPost M1.toNat e z → EndIs l d0 z)
theorem rnum_range (l : List UInt8) : -1 ≤ rnumI l ∧ rnumI l < 1000000000000000000 := by
  rcases rnum_cases l with h | ⟨m, h, hm⟩
  · rw [h]; decide
  · rw [h]; omega
theorem tail_is {l l1 : List UInt8} {d0 : Bool} (h1 : tlB 45 l = l1) (h0 : hdB 45 l = d0) (hw : ∀ p ∈ wordsL, p.1 ≠ l) (hl : l1.length ≤ 100) {eb : ByteArray} (heb : ({ data := (l1.drop (preP l1 + 1)).toArray } : ByteArray) = eb) :
    TailIs l d0 eb (rnumI (l1.take (preP l1))) := by
  obtain ⟨e1, he1⟩ : ∃ e1, l1.drop (preP l1 + 1) = e1 := ⟨_, rfl⟩
  rw [he1] at heb
  have hl1 : e1.length ≤ 100 := by rw [← he1, List.length_drop]; omega
  have hsz : eb.size = e1.length := by rw [← heb]; rfl
  cases hc : e1 with
  | nil =>
    subst hc
    have hn : rnumI [] = -1 := rfl
    refine .inl ⟨by rw [hsz]; rfl, fun W => ?_, end_bad h1 he1 (e2 := []) rfl hw (.inr (.inr (.inl (by rw [hn]; decide))))⟩
    have := rnumber_any [] (by decide) W
    rw [hn, show strL [] = Value.string eb by rw [← heb]] at this
    exact this
  | cons c1 t =>
    have hc0 : e1[0]? = some c1 := by rw [hc]; rfl
    obtain ⟨e2, he2⟩ : ∃ e2, tlB 45 e1 = e2 := ⟨_, rfl⟩
    obtain ⟨d3, hd3⟩ : ∃ d, hdB 45 e1 = d := ⟨_, rfl⟩
    obtain ⟨e2b, he2b⟩ : ∃ r : ByteArray, ({ data := e2.toArray } : ByteArray) = r := ⟨_, rfl⟩
    have hr := rnum_range e2
    have hl2 : e2.length ≤ 100 := by have := tl_len 45 e1; rw [he2] at this; omega
    refine .inr ⟨_, _, rnumI e2, d3, e2b, rfl, by rw [hsz, hc]; simp, fun W => index_of heb hc0 W, (head_is hc0).symm.trans hd3, ?_, fun W => ?_, hr.1, hr.2, fun hb => end_bad h1 he1 he2 hw (.inr hb), fun z e hm hn he hz => ?_⟩
    · cases hdd : d3
      · refine .inr ⟨rfl, ?_⟩
        rw [hdd] at hd3
        rw [← heb, ← he2b, ← he2, tl_same hd3]
      · refine .inl ⟨rfl, fun W => ?_⟩
        rw [hdd] at hd3
        have hle := tl_eq hd3
        rw [he2] at hle
        exact slice_from heb (k := 1) (by rw [hc]; simp) rfl (by rw [hle]; exact he2b) W
    · have := rnumber_any e2 hl2 W
      rw [show strL e2 = Value.string e2b by rw [← he2b]] at this
      exact this
    · exact end_num h1 h0 he1 he2 hd3 hw (by omega) rfl hn he hz
set_option maxHeartbeats 8000000 in
theorem rparse_cons (l : List UInt8) (hl : l.length ≤ 100) (hpos : 0 < l.length) (w : World) : Calls Tryd.prog 26 #[strL l] w fun e w' => (∃ f c, e = .returned (.tuple #[.float .f64 f, .int .i64 c]) ∧ ParseIs l f c) ∧ Below w.heap.size w w' := by
  obtain ⟨s, hs⟩ : ∃ s : ByteArray, ({ data := l.toArray } : ByteArray) = s := ⟨_, rfl⟩
  obtain ⟨N, hN⟩ : ∃ N, l.length = N := ⟨_, rfl⟩
  have hss : (s.size : Int) = (N : Int) := by rw [← hs, ← hN]; rfl
  obtain ⟨c0, hc0⟩ : ∃ c, l[0]? = some c := ⟨l[0]'hpos, List.getElem?_eq_getElem hpos⟩
  have hix0 : ∀ W : World, (Instr.index 9 (.string s) (.int .i64 0)).run Tryd.prog W = .ok (.int .u8 (c0.toNat : Int)) W := fun W => index_of hs hc0 W
  have hd0 := head_is hc0
  obtain ⟨v0, hv0⟩ : ∃ v : Int, (c0.toNat : Int) = v := ⟨_, rfl⟩
  rw [hv0] at hix0 hd0
  obtain ⟨d0, hd⟩ : ∃ d, hdB 45 l = d := ⟨_, rfl⟩
  rw [hd] at hd0
  replace hd0 := hd0.symm
  obtain ⟨l1, hl1⟩ : ∃ l1, tlB 45 l = l1 := ⟨_, rfl⟩
  obtain ⟨r, hr⟩ : ∃ r : ByteArray, ({ data := l1.toArray } : ByteArray) = r := ⟨_, rfl⟩
  have hpre : (d0 = true ∧ (∀ W : World, (Instr.slice 9 (.string s) (some (.int .i64 1)) none none).run Tryd.prog W = .ok (.string r) W)) ∨ (d0 = false ∧ s = r) := by
    cases hdd : d0
    · refine .inr ⟨rfl, ?_⟩
      rw [hdd] at hd
      rw [← hs, ← hr, ← hl1, tl_same hd]
    · refine .inl ⟨rfl, fun W => ?_⟩
      rw [hdd] at hd
      have hle := tl_eq hd
      rw [hl1] at hle
      exact slice_from hs (k := 1) (by omega) rfl (by rw [hle]; exact hr) W
  have hl1l : l1.length ≤ 100 := by have := tl_len 45 l; rw [hl1] at this; omega
  obtain ⟨M, hM⟩ : ∃ M, l1.length = M := ⟨_, rfl⟩
  have hrs : (r.size : Int) = (M : Int) := by rw [← hr, ← hM]; rfl
  obtain ⟨P, hP⟩ : ∃ P, preP l1 = P := ⟨_, rfl⟩
  have hPM : P ≤ M := by rw [← hP, ← hM]; exact preP_le l1
  have HIX := hid (fun k c (h : l1[k]? = some c) W => index_of hr h W)
  have HPA := hid (fun k (h : k < P) => preP_at (l := l1) (k := k) (by rw [hP]; exact h))
  have HPE : Hid (P < M → l1[P]? = some 112) := fun h => by have := preP_end (l := l1) (by rw [hP, hM]; exact h); rw [hP] at this; exact this
  have HL1 := hid hl1; have HD := hid hd; have HR := hid hr; have HS := hid hs
  have hrl : r.toList = l1 := list_of hr
  have HB : Hid (P < M → (r.toList == [110, 97, 110]) = false ∧ (r.toList == [105, 110, 102]) = false ∧ (r.toList == [48]) = false ∧ ∀ p ∈ wordsL, p.1 ≠ l) := fun hlt => by
    have n1 : l1 ≠ [110, 97, 110] := fun e => by rw [← hP, ← hM, e] at hlt; revert hlt; decide
    have n2 : l1 ≠ [105, 110, 102] := fun e => by rw [← hP, ← hM, e] at hlt; revert hlt; decide
    have n3 : l1 ≠ [48] := fun e => by rw [← hP, ← hM, e] at hlt; revert hlt; decide
    rw [hrl]
    exact ⟨by simpa using n1, by simpa using n2, by simpa using n3, not_words hl1 n1 n2 n3⟩
  have HA : Hid (P = M → ((r.toList == [110, 97, 110]) = true ∧ EndIs l d0 9221120237041090561) ∨ ((r.toList == [110, 97, 110]) = false ∧ (r.toList == [105, 110, 102]) = true ∧ EndIs l d0 9218868437227405312) ∨
      ((r.toList == [110, 97, 110]) = false ∧ (r.toList == [105, 110, 102]) = false ∧ (r.toList == [48]) = true ∧ EndIs l d0 0) ∨ ((r.toList == [110, 97, 110]) = false ∧ (r.toList == [105, 110, 102]) = false ∧ (r.toList == [48]) = false ∧ ParseIs l 0 90)) := fun heq => by
    rw [hrl]
    by_cases n1 : l1 = [110, 97, 110]
    · exact .inl ⟨by rw [n1]; rfl, end_word hl1 hd (by rw [n1]; simp)⟩
    · by_cases n2 : l1 = [105, 110, 102]
      · exact .inr (.inl ⟨by rw [n2]; rfl, by rw [n2]; rfl, end_word hl1 hd (by rw [n2]; simp)⟩)
      · by_cases n3 : l1 = [48]
        · exact .inr (.inr (.inl ⟨by rw [n3]; rfl, by rw [n3]; rfl, by rw [n3]; rfl, end_word hl1 hd (by rw [n3]; simp)⟩))
        · exact .inr (.inr (.inr ⟨by simpa using n1, by simpa using n2, by simpa using n3, end_bad hl1 rfl rfl (not_words hl1 n1 n2 n3) (.inl (by rw [hP, hM]; exact heq))⟩))
  obtain ⟨eb, heb⟩ : ∃ eb : ByteArray, ({ data := (l1.drop (P + 1)).toArray } : ByteArray) = eb := ⟨_, rfl⟩
  obtain ⟨pb, hpb⟩ : ∃ pb : ByteArray, ({ data := (l1.take P).toArray } : ByteArray) = pb := ⟨_, rfl⟩
  obtain ⟨M1, hM1⟩ : ∃ m, rnumI (l1.take P) = m := ⟨_, rfl⟩
  have HSL : Hid (P < M → (∀ W : World, (Instr.slice 9 (.string r) (some (.int .i64 ((P : Int) + 1))) none none).run Tryd.prog W = .ok (.string eb) W) ∧ (∀ W : World, (Instr.slice 9 (.string r) none (some (.int .i64 (P : Int))) none).run Tryd.prog W = .ok (.string pb) W) ∧
      (∀ W : World, (Instr.index 9 (.string r) (.int .i64 (P : Int))).run Tryd.prog W = .ok (.int .u8 112) W)) := fun hlt =>
    ⟨fun W => slice_from hr (k := P + 1) (by omega) (by omega) heb W, fun W => slice_to hr (by omega) hpb W, fun W => index_of hr (HPE.out hlt) W⟩
  have NU1 : Hid (∀ W, Calls Tryd.prog 54 #[.string pb] W fun e w' => e = .returned (.int .i64 M1) ∧ W = w') := fun W => by
    have := rnumber_any (l1.take P) (by rw [List.length_take]; omega) W
    rw [hM1, show strL (l1.take P) = Value.string pb by rw [← hpb]] at this
    exact this
  have hM1r := rnum_range (l1.take P)
  rw [hM1] at hM1r
  have HTL : Hid (P < M → TailIs l d0 eb M1) := fun hlt => by
    have := tail_is hl1 hd (HB.out hlt).2.2.2 (by omega) (eb := eb) (by rw [hP]; exact heb)
    rw [hP, hM1] at this
    exact this
  have SC := hid (fun (e : Int) (he : -2000 ≤ e ∧ e ≤ 2000) (h : 0 ≤ M1) W => scaled_any M1.toNat (by omega) e he W)
  replace SC : Hid (∀ (e : Int), -2000 ≤ e ∧ e ≤ 2000 → 0 ≤ M1 → ∀ W, Calls Tryd.prog 55 #[.int .i64 M1, .int .i64 e] W fun E w' => (∃ z, E = .returned (.float .f64 z) ∧ ScPost M1.toNat e z) ∧ W = w') := fun e he h W => by
    have := SC.out e he h W
    rw [show ((M1.toNat : Nat) : Int) = M1 by omega] at this
    exact this
  have NA := hid (fun W => nan_any W); have IN := hid (fun W => inf_any 1 W)
  rw [show Ieee.double.word (decide ((1 : Int) < 0)) (2047 * 2 ^ 52) = 9218868437227405312 by decide +kernel] at IN
  rw [show strL l = Value.string s by rw [← hs]]
  rw [hN] at hpos hl
  rw [hM] at hl1l
  clear hc0 hv0 hd hl1 hr hs hrl heb hpb hM1
  have hNp : 0 < (N : Int) := by omega
  rcases hpre with ⟨rfl, hsl⟩ | ⟨rfl, rfl⟩
  all_goals
    go_enter Tryd.func26, Tryd.ntmps26
    go_wp2
    go_loopw [7] (fun i wr => ∃ k : Nat, k ≤ P ∧ i = .int .i64 (k : Int) ∧ wr = w) (fun i _ => P - (intOf i).toNat)
    case atStart => exact ⟨0, by omega, rfl, rfl⟩
    case round =>
      obtain ⟨k, hk, rfl, rfl⟩ := hrel
      by_cases hkP : k < P
      · obtain ⟨c, hc, hne⟩ := HPA.out k hkP
        have hix := HIX.out k c hc
        have hkM : (k : Int) < (M : Int) := by omega
        have hn112 : ¬ ((c.toNat : Int) = 112) := fun h => hne (UInt8.toNat_inj.1 (by have : (112 : UInt8).toNat = 112 := rfl; omega))
        obtain ⟨v, hv⟩ : ∃ v : Int, (c.toNat : Int) = v := ⟨_, rfl⟩
        rw [hv] at hix hn112
        have hb112 : (v == 112) = false := by simpa using hn112
        have hb112' : (v != 112) = true := by simpa using hn112
        have HK := hid hkP
        clear hc hne hv hkP hn112
        go_wp2
        go_roundw
        case rel => exact ⟨k + 1, by have := HK.out; omega, by go_num, trivial⟩
        case measure => have := HK.out; simp [intOf]; omega
      · obtain rfl : k = P := by omega
        by_cases hlt : k < M
        · obtain ⟨q1, q2, q3, hw⟩ := HB.out hlt
          obtain ⟨s1, s2, s3⟩ := HSL.out hlt
          have hkM : (k : Int) < (M : Int) := by omega
          have hkM2 : ((k : Int) == (M : Int)) = false := by simp; omega
          have htl := HTL.out hlt
          clear hlt hkP hw
          rcases htl with ⟨z0, NE2, HE⟩ | ⟨K, v1, n, d3, e2b, z0, z1, i0, i1, hsl2, NE2, n1, n2, HBAD, HNUM⟩
          · go_wp2_with (go_at_call 54; first
              | ((with_reducible refine (NU1.out _).mono ?_); rintro e x1 ⟨rfl, rfl⟩)
              | ((with_reducible refine (NE2.out _).mono ?_); rintro e x2 ⟨rfl, rfl⟩))
            all_goals
              go_ret2
              exact ⟨⟨_, _, rfl, HE.out⟩, by (repeat' (first | (with_reducible exact Below.refl _ _) | (with_reducible assumption) | (with_reducible refine Below.new ?_ _) | (with_reducible refine Below.alloc ?_ ?_ _) | (with_reducible refine Below.drew ?_) | (with_reducible refine Below.drewN ?_ _) | (with_reducible refine Below.setCell ?_ ?_ _) | (refine Below.step ?_ (by assumption)) | go_size))⟩
          · rcases hsl2 with ⟨rfl, hsl2⟩ | ⟨rfl, rfl⟩
            all_goals
              go_wp2_with (first
                | (go_at_call 54; first
                  | ((with_reducible refine (NU1.out _).mono ?_); rintro e x1 ⟨rfl, rfl⟩)
                  | ((with_reducible refine (NE2.out _).mono ?_); rintro e x2 ⟨rfl, rfl⟩))
                | (go_at_call 55; (with_reducible refine (SC.out _ (by omega) (by omega) _).mono ?_); rintro e x3 ⟨⟨z, rfl, hz⟩, rfl⟩; have he := HNUM.out z _ (by omega) (by omega) rfl hz; first | (have HT := end_t he; obtain ⟨zc, T, C1, T1, YE, NE⟩ := HT; clear he hz) | (have HT := end_f he; obtain ⟨T, T1, YE, NE⟩ := HT; clear he hz))
                | (go_at_call 56; ((with_reducible refine (C1.out _).mono ?_); rintro e x4 ⟨rfl, rfl⟩))
                | (go_at_call 29; ((with_reducible refine (T1.out _).mono ?_); rintro e x5 ⟨rfl, hb5⟩)))
              all_goals
                go_ret2
                first
                | exact ⟨⟨_, _, rfl, YE.out (cmp_is HS.out ‹(!(_ == _)) = false›)⟩, by (repeat' (first | (with_reducible exact Below.refl _ _) | (with_reducible assumption) | (with_reducible refine Below.new ?_ _) | (with_reducible refine Below.alloc ?_ ?_ _) | (with_reducible refine Below.drew ?_) | (with_reducible refine Below.drewN ?_ _) | (with_reducible refine Below.setCell ?_ ?_ _) | (refine Below.step ?_ (by assumption)) | go_size))⟩
                | exact ⟨⟨_, _, rfl, NE.out (cmp_ne HS.out ‹(!(_ == _)) = true›)⟩, by (repeat' (first | (with_reducible exact Below.refl _ _) | (with_reducible assumption) | (with_reducible refine Below.new ?_ _) | (with_reducible refine Below.alloc ?_ ?_ _) | (with_reducible refine Below.drew ?_) | (with_reducible refine Below.drewN ?_ _) | (with_reducible refine Below.setCell ?_ ?_ _) | (refine Below.step ?_ (by assumption)) | go_size))⟩
                | exact ⟨⟨_, _, rfl, HBAD.out (by omega)⟩, by (repeat' (first | (with_reducible exact Below.refl _ _) | (with_reducible assumption) | (with_reducible refine Below.new ?_ _) | (with_reducible refine Below.alloc ?_ ?_ _) | (with_reducible refine Below.drew ?_) | (with_reducible refine Below.drewN ?_ _) | (with_reducible refine Below.setCell ?_ ?_ _) | (refine Below.step ?_ (by assumption)) | go_size))⟩
        · have heq : k = M := by omega
          have hkM : ¬ (k : Int) < (M : Int) := by omega
          have hkM2 : ((k : Int) == (M : Int)) = true := by simp; omega
          rcases HA.out heq with ⟨q1, he⟩ | ⟨q1, q2, he⟩ | ⟨q1, q2, q3, he⟩ | ⟨q1, q2, q3, he⟩
          all_goals
            first
            | (have HE : Hid (ParseIs l 0 90) := he)
            | (have HT := end_t he; obtain ⟨zc, T, C1, T1, YE, NE⟩ := HT)
            | (have HT := end_f he; obtain ⟨T, T1, YE, NE⟩ := HT)
            clear he hlt hkP
            go_wp2_with (first
              | (go_at_call 37; ((with_reducible refine (NA.out _).mono ?_); rintro e x1 ⟨rfl, rfl⟩))
              | (go_at_call 38; ((with_reducible refine (IN.out _).mono ?_); rintro e x2 ⟨rfl, rfl⟩))
              | (go_at_call 56; ((with_reducible refine (C1.out _).mono ?_); rintro e x3 ⟨rfl, rfl⟩))
              | (go_at_call 29; ((with_reducible refine (T1.out _).mono ?_); rintro e x4 ⟨rfl, hb4⟩)))
            all_goals
              go_ret2
              first
              | exact ⟨⟨_, _, rfl, HE.out⟩, by (repeat' (first | (with_reducible exact Below.refl _ _) | (with_reducible assumption) | (with_reducible refine Below.new ?_ _) | (with_reducible refine Below.alloc ?_ ?_ _) | (with_reducible refine Below.drew ?_) | (with_reducible refine Below.drewN ?_ _) | (with_reducible refine Below.setCell ?_ ?_ _) | (refine Below.step ?_ (by assumption)) | go_size))⟩
              | exact ⟨⟨_, _, rfl, YE.out (cmp_is HS.out ‹(!(_ == _)) = false›)⟩, by (repeat' (first | (with_reducible exact Below.refl _ _) | (with_reducible assumption) | (with_reducible refine Below.new ?_ _) | (with_reducible refine Below.alloc ?_ ?_ _) | (with_reducible refine Below.drew ?_) | (with_reducible refine Below.drewN ?_ _) | (with_reducible refine Below.setCell ?_ ?_ _) | (refine Below.step ?_ (by assumption)) | go_size))⟩
              | exact ⟨⟨_, _, rfl, NE.out (cmp_ne HS.out ‹(!(_ == _)) = true›)⟩, by (repeat' (first | (with_reducible exact Below.refl _ _) | (with_reducible assumption) | (with_reducible refine Below.new ?_ _) | (with_reducible refine Below.alloc ?_ ?_ _) | (with_reducible refine Below.drew ?_) | (with_reducible refine Below.drewN ?_ _) | (with_reducible refine Below.setCell ?_ ?_ _) | (refine Below.step ?_ (by assumption)) | go_size))⟩
theorem rparse_any (l : List UInt8) (hl : l.length ≤ 100) (w : World) : Calls Tryd.prog 26 #[strL l] w fun e w' => (∃ f c, e = .returned (.tuple #[.float .f64 f, .int .i64 c]) ∧ ParseIs l f c) ∧ Below w.heap.size w w' := by
  rcases Nat.eq_zero_or_pos l.length with h | h
  · obtain rfl := List.eq_nil_of_length_eq_zero h
    exact rparse_nil w
  · exact rparse_cons l hl h w
end Go.Proofs.YtcdfbcmhikhnjaaDoor
